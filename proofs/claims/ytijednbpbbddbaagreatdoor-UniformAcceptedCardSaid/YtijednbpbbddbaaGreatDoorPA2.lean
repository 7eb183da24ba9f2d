/- Part of the proof of UniformAccepted: plain facts. -/
import Derived.Test.YtijednbpbbddbaaGreatDoorPA1
set_option linter.all false
namespace Go.ek
open Go
mutual
noncomputable def Fm.qd:Fm->List Ty->Int
 |.mk k s ts l,g=>if eC (ts.map λt=>kO t g 1)=0 then Fm.Md l (if gy k then g++[s] else g)else eC (ts.map λt=>kO t g 1)
noncomputable def Fm.Md:List Fm->List Ty->Int
 |[],_=>0|f::l,g=>if f.qd g=0 then Fm.Md l g else f.qd g
end
def Fm.H_(g:List Ty):∀l:List Fm,Fm.Md l g=eC (l.map λf=>f.qd g)
 |[]=>by rw[Fm.Md];rfl|f::l=>by rw[Fm.Md,Fm.H_ g l];rfl
def Fm.oL(k:Int)(s:Ty)(ts:List Tm)(l:List Fm)(g:List Ty):(Fm.mk k s ts l).qd g=if eC (ts.map λt=>kO t g 1)=0 then eC (l.map λf=>f.qd (if gy k then g++[s] else g))else eC (ts.map λt=>kO t g 1):=by
 rw[Fm.qd,Fm.H_]
def tC{t:Tm}{g:List Ty}(a:t.ok=true)(hn:t.agl<=4096)(hg:gA g)(b:g.length<=900000):pe g t=some (t.ty g):=by
 unfold pe;have hw:=t.gm a;rw[iY VW]
 have he:t.err=0:=by unfold Tm.err;rw[cK a,cI VW]
 rw[he];simp only[cv];rw[cI aaa,t_ FU t (by have:=dp;omega) a g hg VW];rfl
def B5{t:Tm}{g:List Ty}(f:t.ok=true)(hn:t.agl<=4096)(hg:gA g)(i:g.length<=900000):(cX (pe g t) λd a=>if(dw a 0) then(some (.ret a))else(if(dw d.agj 1) then(some (.ret 7))else(some (.next ()))):Option (eu Unit Int))=
   if kO t g 1≠0 then some (.ret (kO t g 1))else some (.next ()):=by
 rw[tC f hn hg i];unfold kO;generalize t.ty g=q;obtain⟨r,e⟩:=q;simp only[cH,cV]
 by_cases b:e=0
 ·subst b
  by_cases c:r.agj=1
  ·rw[cI aaB,cI (by simp[c]),cI (show¬((0:Int)=0/\r.agj≠1)fromλh=>h.2 c),cI aaB]
  ·rw[cI aaB,cK c,cK (show(0:Int)=0/\r.agj≠1 from⟨rfl,c⟩),cK aaa]
 ·rw[cK b,cI (show¬(e=0/\r.agj≠1)fromλh=>b h.1),cK b]
def nN{e:Int}:(cG (some e) λa=>if(dw a 0) then(some (.ret a))else(some (.next ())):Option (eu Unit Int))=if e≠0 then some (.ret e)else some (.next ()):=by
 rw[cv]
 by_cases h:e=0
 ·subst h;rfl
 ·rw[cK (by simpa[dw] using h),cK h]
def pL{l:List Int}{k:Unit⊕Int->Option Int}(h:k=fi (λ_=>some 0) (λr=>some r)):cG (if eC l=0 then some (.inl ())else some (.inr (eC l))) k=some (eC l):=by
 subst h
 by_cases h:eC l=0
 ·rw[cK h,h];rfl
 ·rw[cI h];rfl
def ug(f:Fm)(v:f.ok=true):∀n,f.agl<=n->∀g,gA g->g.length+f.agl<=900000->f.agl<=4096->lM n g f=some (f.qd g):=by
 refine Fm.kC (p:=λf=>∀n,f.agl<=n->∀g,gA g->g.length+f.agl<=900000->f.agl<=4096->lM n g f=some (f.qd g)) ?_ ?_ ?_ f v
 ·intro a b l u n hn g hg c d;rw[Fm.cJ] at hn c d;simp only[cU] at hn c d;obtain⟨n,rfl⟩:∃m,n=m+1:=⟨n-1,VW⟩;rw[lM,Fm.oL];simp only[cN,Fm.eN,Fm.cZ,Fm.da,iG,cv]
  rw[cT aaB,cL,hQ (λt=>kO t g 1) [a,b] 0 (λj x e=>by
   simp only[iL,Lo,mQ] at e;rcases e with rfl|rfl
   ·exact B5 l VW hg VW
   ·exact B5 u VW hg VW)]
  rw[show gy 1=false from rfl]
  by_cases h:eC ([a,b].map λt=>kO t g 1)=0
  ·rw[cK h,cK h];rfl
  ·rw[cI h,cI h];rfl
 ·intro k a b o l u i q n hn g hg c d;rw[Fm.cJ] at hn c d;simp only[cU] at hn c d;obtain⟨n,rfl⟩:∃m,n=m+1:=⟨n-1,VW⟩
  have r:gy k=false:=by rcases o with rfl|rfl<;>rfl
  rw[lM,Fm.oL];simp only[cN,Fm.eN,Fm.cZ,Fm.da,iG,cv,r,Em,eC]
  rw[cT aaB,cL,lT,cv,cS,cI aaa,cK trivial,cT aaB,cL,hQ (λf=>f.qd g) [a,b] 0 (λj x e=>by
   simp only[iL,Lo,mQ] at e;rcases e with rfl|rfl
   ·rw[i n VW g hg VW VW];exact nN
   ·rw[q n VW g hg VW VW];exact nN)]
  exact pL rfl
 ·intro k s a o hs l i n hn g hg c d;rw[Fm.cJ] at hn c d;simp only[cU] at hn c d;obtain⟨n,rfl⟩:∃m,n=m+1:=⟨n-1,VW⟩
  have r:gy k=true:=by rcases o with rfl|rfl|rfl|rfl<;>rfl
  rw[lM,Fm.oL];simp only[cN,Fm.eN,Fm.cZ,Fm.da,Fm.dv,iG,cv,r,Em,eC];rw[cT aaB,cL,lT,cv,cS];simp only[if_true]
  rw[dt aaP,cL,eb,cT aaB,cL,hQ (λf=>f.qd (g++[s])) [a] 0 (λj x e=>by
   simp only[iL,Lo,mQ] at e;subst e
   rw[i n VW (g++[s]) (hg.app hs) aaP VW];exact nN)]
  exact pL rfl
def mZ{g:List Ty}{s:Ty}(hs:s.err=0)(a:g.length<=900000):eZ (g.map nI) [s]=some ((g++[s]).map nI):=by
 unfold eZ od;simp only[cN];rw[cT aaB,cL,dq,hU hs];simp only[cv];rw[dt aaB,cL];simp only[cv,dr,lT,cS,eb,kW];rw[dt aaP,cL,tp]
def yn{t:Tm}{g:List Ty}(b:t.ok=true)(hn:t.agl<=4096)(hg:gA g)(c:g.length<=900000):(cG (gJ (g.map nI) t) λa=>if(dw a 0) then(some (.ret a))else(some (.next ())):Option (eu Unit Int))=if kO t g 1≠0 then some (.ret (kO t g 1))else some (.next ()):=by
 rw[rq b hg VW];exact nN
def qi(f:Fm)(A:f.ok=true):∀n,f.agl<=n->∀g,gA g->g.length+f.agl<=900000->f.agl<=4096->dy n (g.map nI) f=some (f.qd g):=by
 refine Fm.kC (p:=λf=>∀n,f.agl<=n->∀g,gA g->g.length+f.agl<=900000->f.agl<=4096->dy n (g.map nI) f=some (f.qd g)) ?_ ?_ ?_ f A
 ·intro a b u y n hn g hg c d;rw[Fm.cJ] at hn c d;simp only[cU] at hn c d;obtain⟨n,rfl⟩:∃m,n=m+1:=⟨n-1,VW⟩;rw[dy,Fm.oL];simp only[cN,Fm.eN,Fm.cZ]
  rw[cI aaB,cI aaB,cI aaB,cT aaB,cL,hQ (λt=>kO t g 1) [a,b] 0 (λj x e=>by
   simp only[iL,Lo,mQ] at e;rcases e with rfl|rfl
   ·exact yn u VW hg VW
   ·exact yn y VW hg VW)]
  rw[pL rfl]
  by_cases h:eC ([a,b].map λt=>kO t g 1)=0
  ·rw[cK h,h];rfl
  ·rw[cI h]
 ·intro k a b l u y o v n hn g hg c d;rw[Fm.cJ] at hn c d;simp only[cU] at hn c d;obtain⟨n,rfl⟩:∃m,n=m+1:=⟨n-1,VW⟩
  have w:gy k=false:=by rcases l with rfl|rfl<;>rfl
  have B:eH (dm k 4) true (dm k 5)=false:=by rcases l with rfl|rfl<;>rfl
  have k2:eH (dm k 6) true (dm k 7)=false:=by rcases l with rfl|rfl<;>rfl
  have C:eH (dm k 2) true (dm k 3)=true:=by rcases l with rfl|rfl<;>rfl
  rw[dy,Fm.oL];simp only[cN,Fm.eN,Fm.cZ,w,Em,eC];rw[cI (by simp only[Fm.da,B];decide),cI (by simp only[Fm.da,k2];decide),cK (by simp only[Fm.da,C])];simp only[if_true,lU,jC]
  rw[cT aaB,cL,hQ (λf=>f.qd g) [a,b] 0 (λj x e=>by
   simp only[iL,Lo,mQ] at e;rcases e with rfl|rfl
   ·rw[o n VW g hg VW VW];exact nN
   ·rw[v n VW g hg VW VW];exact nN)]
  exact pL rfl
 ·intro k s a l hs u o n hn g hg c d;rw[Fm.cJ] at hn c d;simp only[cU] at hn c d;obtain⟨n,rfl⟩:∃m,n=m+1:=⟨n-1,VW⟩
  have w:gy k=true:=by rcases l with rfl|rfl|rfl|rfl<;>rfl
  rw[dy,Fm.oL];simp only[cN,Fm.eN,Fm.cZ,Fm.dv,w,Em,eC,mZ hs (show g.length<=900000 by omega),cv,if_true]
  have fin:(fY (eg [a])<|cG (dP (λ(z:Int) (q:Fm)=>(λ(_:Unit)=>
    cG (dy n ((g++[s]).map nI) q) λi=>
    if(dw i 0) then(
    some (.ret i))
    else(some (.next ()))):Int->Fm->(Unit)->(Option (eu (Unit) (Int)))) [a] 0 ()) (fi (λ(_:Unit)=>some 0) (λr=>some r)))=some (eC ([a].map λf=>f.qd (g++[s]))):=by
   rw[cT aaB,cL,hQ (λf=>f.qd (g++[s])) [a] 0 (λj x e=>by
    simp only[iL,Lo,mQ] at e;subst e
    rw[o n VW (g++[s]) (hg.app hs) aaP VW];exact nN)]
   exact pL rfl
  rcases l with rfl|rfl|rfl|rfl
  ·rw[cK aaB];exact fin
  ·rw[cK aaB];exact fin
  ·rw[cI aaB,cK aaB];exact fin
  ·rw[cI aaB,cK aaB];exact fin
mutual
def Fm.up(f b:Int):Fm->Fm
 |.mk k s ts l=>.mk k s (ts.map (Tm.up f b)) (Fm.QN (f+qB k) b l)
def Fm.QN(f b:Int):List Fm->List Fm
 |[]=>[]|t::l=>t.up f b::Fm.QN f b l
end
def Fm.GB(f b:Int)(l:List Fm):Fm.QN f b l=l.map (Fm.up f b):=by
 induction l with
 |nil=>rfl|cons t l a=>simp[Fm.QN,a]
def Fm.ir(f b k:Int)(s:Ty)(ts:List Tm)(l:List Fm):(Fm.mk k s ts l).up f b=.mk k s (ts.map (Tm.up f b)) (l.map (Fm.up (f+qB k) b)):=by rw[Fm.up,Fm.GB]
mutual
def Fm.agp(m:Int):Fm->Bool
 |.mk _ _ ts l=>ts.all (Tm.agp m)&&Fm.oI m l
def Fm.oI(m:Int):List Fm->Bool
 |[]=>true|t::l=>t.agp m&&Fm.oI m l
end
def Fm.xy(m:Int)(l:List Fm):Fm.oI m l=l.all (Fm.agp m):=by
 induction l with
 |nil=>rfl|cons t l a=>simp[Fm.oI,a]
theorem Fm.dI(m k:Int)(s:Ty)(ts:List Tm)(l:List Fm):(Fm.mk k s ts l).agp m=(ts.all (Tm.agp m)&&l.all (Fm.agp m)):=by rw[Fm.agp,Fm.xy]
mutual
def Fm.agr(a:Int):Fm->Nat
 |.mk k _ ts l=>cU (Tm.agr a) ts+Fm.ss (a+qB k) l
def Fm.ss(a:Int):List Fm->Nat
 |[]=>0|t::l=>t.agr a+Fm.ss a l
end
def Fm.xp(a:Int)(l:List Fm):Fm.ss a l=cU (Fm.agr a) l:=by
 induction l with
 |nil=>rfl|cons t l b=>simp[Fm.ss,cU,b]
def Fm.ej(a k:Int)(s:Ty)(ts:List Tm)(l:List Fm):(Fm.mk k s ts l).agr a=cU (Tm.agr a) ts+cU (Fm.agr (a+qB k)) l:=by rw[Fm.agr,Fm.xp]
mutual
def Fm.j3:Int->Fm->Tm->Fm
 |n,.mk k ty ts l,s=>.mk k ty (ts.map λx=>Tm.j3 n x s) (Fm.DF (n+qB k) l s)
def Fm.DF:Int->List Fm->Tm->List Fm
 |_,[],_=>[]|n,t::l,s=>Fm.j3 n t s::Fm.DF n l s
end
def Fm.DL(n:Int)(s:Tm)(l:List Fm):Fm.DF n l s=l.map (λx=>Fm.j3 n x s):=by
 induction l with
 |nil=>rfl|cons t l a=>simp[Fm.DF,a]
def Fm.ka(n:Int)(s:Tm)(k:Int)(ty:Ty)(ts:List Tm)(l:List Fm):Fm.j3 n (Fm.mk k ty ts l) s=.mk k ty (ts.map λx=>Tm.j3 n x s) (l.map λx=>Fm.j3 (n+qB k) x s):=by rw[Fm.j3,Fm.DL]
def Fm.fD(t:Fm):∀a,t.agr a<=t.agl:=by
 induction t using Fm.ind with
 |h k s ts l b=>
  intro a;rw[Fm.ej,Fm.cJ];have:=gP (f:=Fm.agr (a+qB k)) (g:=Fm.agl) (l:=l) λx c=>b x c _;have:=gP (f:=Tm.agr a) (g:=Tm.agl) (l:=ts) λx _=>x.fD _;omega
theorem Fm.lO(t:Fm):∀f b,(t.up f b).agl=t.agl:=by
 induction t using Fm.ind with
 |h k s ts l a=>
  intro f b;rw[Fm.ir,Fm.cJ,Fm.cJ,k8,k8,l_ λx c=>a x c _ _,l_ λx _=>Tm.lO x f b]
theorem Fm.zd(t:Fm):∀f b,(t.up f b).wt=t.wt:=by
 induction t using Fm.ind with
 |h k s ts l a=>
  intro f b;rw[Fm.ir,Fm.dC,Fm.dC,k8,k8,l_ λx c=>a x c _ _,l_ λx _=>Tm.zd x f b]
theorem Fm.Cb(t:Fm):∀f b,0<=f->0<=b->(t.up f b).ok=t.ok:=by
 induction t using Fm.ind with
 |h k s ts l c=>
  intro f b d a;have:=wG k;rw[Fm.ir,Fm.eD,Fm.eD,Eb,Eb,qU λx e=>c x e (f+qB k) b VW a,qU λx _=>Tm.Cb x f b d a]
def Fv{α:Type}{a b c:α->Nat}{m:Nat}{l:List α}(h:∀x∈l,a x+b x=c x+b x*m):cU a l+cU b l=cU c l+cU b l*m:=by
 induction l with
 |nil=>simp[cU]|cons y l d=>
  have f:=h y aaB;have g:=d λx e=>h x aaN;simp only[cU,A7];omega
def Fm.mi(s:Tm)(t:Fm):∀n,t.ok=true->(Fm.j3 n t s).agl+t.agr n=t.agl+t.agr n*s.agl:=by
 induction t using Fm.ind with
 |h k ty ts l f=>
  intro n d;rw[Fm.eD] at d;simp only[ez,iC] at d;rw[Fm.ka,Fm.ej,Fm.cJ,Fm.cJ,k8,k8,A7];have g:=Fv (l:=ts) (a:=λx=>(Tm.j3 n x s).agl) (b:=Tm.agr n) (c:=Tm.agl) (m:=s.agl) λx e=>Tm.mi s x n (d.1.2 x e);have i:=Fv (l:=l) (a:=λx=>(Fm.j3 (n+qB k) x s).agl) (b:=Fm.agr (n+qB k)) (c:=Fm.agl) (m:=s.agl) λx e=>f x e _ (d.2 x e);omega
def wW{t:Tm}(m:Int)(h:t.agl<=1000000000):kJ FU t m=some (t.agp m):=tM FU t m (by rw[dp];exact h) h
def wD:∀(n:Nat) (t:Fm) (m:Int),t.agl<=n->t.agl<=1000000000->oo n t m=some (t.agp m):=by
 intro n
 induction n with
 |zero=>intro t m h;have:=t.db;omega
 |succ n c=>
  intro t m h d;cases t with
  |mk k s ts l=>
   rw[Fm.cJ] at h d;have g:=Fm.dK l;have e:=Tm.dK ts
   have f:dP (ρ:=Bool) (λ(_:Int) (x:Tm) (_:Unit)=>cG (kJ FU x m) λa=>if a then some (eu.next ())else some (eu.ret false)) ts 0 ()=if ts.all (Tm.agp m) then some (.inl ())else some (.inr false):=by
    refine l5 (Tm.agp m) _ ts 0 ?_;intro j x b;have:=c6 Tm.agl b;rw[wW m VW];rfl
   have k2:dP (ρ:=Bool) (λ(_:Int) (x:Fm) (_:Unit)=>cG (oo n x m) λa=>if a then some (eu.next ())else some (eu.ret false)) l 0 ()=if l.all (Fm.agp m) then some (.inl ())else some (.inr false):=by
    refine l5 (Fm.agp m) _ l 0 ?_;intro j x b;have:=c6 Fm.agl b;rw[c x m VW VW];rfl
   rw[oo];simp only[Fm.cZ,Fm.eN,cN,cT (l:=l) VW,cT (l:=ts) VW,cL,f,k2,Fm.dI];cases i:ts.all (Tm.agp m)<;>cases o:l.all (Fm.agp m)<;>simp
def nd:∀(n:Nat) (t:Fm) (f b:Int),t.agl<=n->t.agl<=1000000000->0<=f->f+t.agl<=10000000000->0<=b->b<=10000000000->t.agp 1000000000000=true->fq n t f b=some (t.up f b):=by
 intro n
 induction n with
 |zero=>intro t f b h;have:=t.db;omega
 |succ n o=>
  intro t f b h d p e i a hi;cases t with
  |mk k s ts l=>
   rw[Fm.cJ] at h d e;rw[Fm.dI] at hi;simp only[ez,iC] at hi;have r:=Fm.dK l;have q:=Tm.dK ts;have u:=wG k;rw[fq];simp only[Fm.cZ,Fm.eN,Fm.da,Fm.dv,cN,cT (l:=l) VW,cT (l:=ts) VW,cL];rw[fy (Tm.up f b) ts 0 [] aaP]
   ·simp only[cv,cS];rw[fy (Fm.up (f+qB k) b) l 0 [] aaP]
    ·simp[Fm.ir]
    ·intro j x v c g;have:=c6 Fm.agl c;rw[k6];simp only[cv,Fm.da];rw[ds VW VW,o x (f+qB k) b VW VW VW VW i a (hi.2 x c)];simp[dt (l:=v) (m:=[x.up (f+qB k) b]) (by simpa using g)]
   ·intro j x v c g;have:=c6 Tm.agl c;rw[tN FU x f b (by rw[dp];omega) VW p VW i a (hi.1 x c)];simp[dt (l:=v) (m:=[x.up f b]) (by simpa using g)]
def AS:∀(n:Nat) (t:Fm) (a:Int),t.agl<=n->t.agl<=1000000000->0<=a->a+t.agl<=10000000000->pj n t a=some (t.agr a:Int):=by
 intro n
 induction n with
 |zero=>intro t a h;have:=t.db;omega
 |succ n g=>
  intro t a h c i d;cases t with
  |mk k s ts l=>
   rw[Fm.cJ] at h c d;have q:=Fm.dK l;have m:=Tm.dK ts;have r:=wG k;have o:cU (Fm.agr (a+qB k)) l<=cU Fm.agl l:=gP λx _=>x.fD _;have f:cU (Tm.agr a) ts<=cU Tm.agl ts:=gP λx _=>x.fD _;rw[pj];simp only[Fm.cZ,Fm.eN,Fm.da,cN,cT (l:=l) VW,cT (l:=ts) VW,cL]
   have p:=ll (ρ:=Int) (F:=λ(_:Int) (x:Tm) (v:Int)=>cG (mm FU x a) λy=>some (eu.next (dR .i64 v y))) (Tm.agr a) ts 0 0 VW (by
    intro j x v e;have:=c6 Tm.agl e;rw[ua FU x a (by rw[dp];omega) VW i VW]
    rfl)
   have k2:=ll (ρ:=Int) (F:=λ(_:Int) (x:Fm) (v:Int)=>cG (ng (Fm.mk k s ts l)) λb=>cG (pj n x (dR .i64 a b)) λy=>some (eu.next (dR .i64 v y))) (Fm.agr (a+qB k)) l 0 (0+cU (Tm.agr a) ts) VW (by
    intro j x v e;have:=c6 Fm.agl e;rw[k6];simp only[cv,Fm.da];rw[ds VW VW,g x _ VW VW VW VW]
    rfl)
   rw[show(0:Int)=((0:Nat):Int)from rfl,p];simp only[cv,cS];rw[k2];simp[Fm.ej]
def FG:∀(n:Nat) (t:Fm) (a b:Int) (s:Tm),t.agl<=n->t.agl<=1000000000->0<=a->0<=b->a+b+t.agl<=5000000000->t.agp 1000000000000=true->t.ok=true->s.agl<=1000000000->s.agp 1000000000000=true->yK n t a b s=some (Fm.j3 (a+b) t s):=by
 intro n
 induction n with
 |zero=>intro t a b s h;have:=t.db;omega
 |succ n p=>
  intro t a b s h f o q g hi c hs e;cases t with
  |mk k ty ts l=>
   rw[Fm.cJ] at h f g;rw[Fm.dI] at hi;rw[Fm.eD] at c;simp only[ez,iC] at hi c;have u:=Fm.dK l;have r:=Tm.dK ts;have w:=wG k;rw[yK];simp only[Fm.cZ,Fm.eN,Fm.da,Fm.dv,cN,cT (l:=l) VW,cT (l:=ts) VW,cL];rw[fy (λx=>Tm.j3 (a+b) x s) ts 0 [] aaP]
   ·simp only[cv,cS];rw[fy (λx=>Fm.j3 (a+b+qB k) x s) l 0 [] aaP]
    ·simp[Fm.ka]
    ·intro j x v d i;have:=c6 Fm.agl d;rw[k6];simp only[cv,Fm.da];rw[ds VW VW,p x a (b+qB k) s VW VW o VW VW (hi.2 x d) (c.2 x d) hs e];rw[show a+(b+qB k)=a+b+qB k by omega];simp[dt (l:=v) (m:=[Fm.j3 (a+b+qB k) x s]) (by simpa using i)]
   ·intro j x v d i;have:=c6 Tm.agl d;rw[yv FU x a b s (by rw[dp];omega) VW o q VW (hi.1 x d) (c.1.2 x d) hs e];simp[dt (l:=v) (m:=[Tm.j3 (a+b) x s]) (by simpa using i)]
def Fm.iM(t:Fm):∀{m n:Int},m<=n->t.agp m=true->t.agp n=true:=by
 induction t using Fm.ind with
 |h k s ts l c=>
  intro m n a h;rw[Fm.dI] at*;simp only[ez,iC] at*;exact⟨λx b=>Tm.iM x a (h.1 x b),λx b=>c x b a (h.2 x b)⟩
def hD.agp{g:List Ty}{f:Fm}(h:hD g f):∀m:Int,((g.length+f.agl:Nat):Int)<=m->f.agp m=true:=by
 induction h with
 |eq c d=>
  intro m hm;simp only[Fm.cJ,cU] at hm;simp only[Fm.dI,sC,IT,CG,ez];exact⟨c.agp m VW,d.agp m VW⟩
 |two _ _ _ a b=>
  intro m hm;simp only[Fm.cJ,cU] at hm;simp only[Fm.dI,sC,IT,CG,ez,uQ];exact⟨a m VW,b m VW⟩
 |q _ _ _ e=>
  intro m hm;simp only[Fm.cJ,cU] at hm;simp only[Fm.dI,sC,IT,CG,uQ];exact e m aaP
def Tm.zG(φ:Int->Int->Tm)(b:Int):Tm->Tm
 |.mk k i s l=>if k=1 then φ i b else .mk k i s (l.attach.map λx=>Tm.zG φ (b+d_ k) x.1)
decreasing_by
 have:=Vg x.2;simp only[Tm.mk.sizeOf_spec];omega
def Tm.tr(φ:Int->Int->Tm)(b k i:Int)(s:Ty)(l:List Tm):(Tm.mk k i s l).zG φ b=if k=1 then φ i b else .mk k i s (l.map (Tm.zG φ (b+d_ k))):=by
 rw[Tm.zG]
 congr 2
 exact Za
def rl(k b:Int)(a:-1000000000000<=b)(c:b<=1000000000000):eH (dm k 2) (dR .i64 b 1) b=b+d_ k:=by
 unfold d_
 by_cases h:k=2
 ·subst h;rw[show dm 2 2=true from rfl,cK rfl];exact ds VW VW
 ·rw[show dm k 2=false by simpa[dm] using h,cI h];show b=b+0;omega
def qJ{h:Int->Int->Option Tm}{φ:Int->Int->Tm}{M:Int}(y:∀i b,0<=i->i<=M->0<=b->b<=10000000000->h i b=some (φ i b)):∀(n:Nat) (t:Tm) (b:Int),t.agl<=n->t.agl<=50000000->t.ok=true->t.agp M=true->0<=b->b+t.agl<=10000000000->fA n t b (λ(s:Unit) (g:Int) (m:Int)=>mr (h g m) s) ()=some (t.zG φ b,()):=by
 intro n
 induction n with
 |zero=>intro t b h;have:=t.db;omega
 |succ n z=>
  intro t b hn A o p B q;cases t with
  |mk k i s l=>
   rw[Tm.cJ] at hn A q;have hlen:=Tm.dK l;have e:=o;rw[Tm.eD,ez] at o;have C:=Ty.qY o.1;rw[Tm.dI,ez,Ja,iC] at p;rw[fA,Tm.tr]
   by_cases r:k=1
   ·subst r;have hi:=(Tm.ib e).2.1;rw[cK aa7,cK rfl];simp only[Tm.dW];rw[y i b hi p.1 B VW,wc,cH]
   ·rw[cI (by simpa[dm] using r),cI r];simp only[Tm.dv,Tm.cZ,Tm.da,Tm.dW,cN];rw[kF VW,cv,cT VW,cL,rl k b VW VW];have D:=h9 k
    have loop:∀(ts:List Tm) (j:Nat) (v:List Tm),(∀t∈ts,t∈l)->v.length+ts.length<=50000000->dP (λ(E:Int) (w:Tm)=>(nk λ(a:List Tm) (v107:Unit)=>
       cX (fA n w (b+d_ k) (λ(s:Unit) (g:Int) (m:Int)=>mr (h g m) s) v107) λc f=>
       fY (eM a [c])<|some ((.next ((eV a [c]),f)):eu ((List Tm)×Unit) (Tm×Unit)))) ts j (v,())=some (.inl (v++ts.map (Tm.zG φ (b+d_ k)),())):=by
     intro ts
     induction ts with
     |nil=>intro j v _ _;simp|cons t ts x=>
      intro j v hm F;simp only[hW] at F;have d:=hm t aaB;have G:=c6 Tm.agl d;rw[dq];simp only[nk];rw[z t (b+d_ k) VW VW ((Tm.ib e).2.2.2.1 t d) (p.2 t d) VW VW,cH,dt aaP,cL];simp only[cv,dr];rw[eb];have:=x (j+1) (v++[t.zG φ (b+d_ k)]) (λu hu=>hm u (by simp[hu])) aaP;rw[this];simp
    rw[loop l 0 [] (λt h=>h) aaP,cv];simp
structure Bd (t:Tm):Prop where
 ok:t.ok=true
 agp:t.agp 1000000000000=true
 agl:t.agl<=50000000
def Tm.HF(f c:Int)(n:0<=f):∀(t:Tm) (b:Int),0<=b->t.ok=true->t.zG (λi b=>.mk 1 (if f<=i-b then i+c else i) (.mk 0 []) []) b=t.up (f+b) c:=by
 intro t
 induction t using Tm.ind with
 |h k i s l g=>
  intro b o a;have hi:=Tm.ib a;rw[Tm.tr,Tm.ir]
  by_cases d:k=1
  ·subst d;rw[cK rfl]
   have j:l=[]:=by
    have:=hi.2.2.2.2;unfold fm at this;rw[cK (.inl rfl)] at this;exact Dq VW
   have hs:s=.mk 0 []:=by
    rw[Tm.eD] at a;simp only[Tm.node,ez] at a;have:=a.1.2;rw[cI aaa] at this;exact(Ty.iR s).1 this
   subst j;subst hs;simp only[Em,Hc]
   congr 1
   by_cases h:f+b<=i
   ·rw[cK h,cK VW]
   ·rw[cI h,cI VW]
  ·rw[cI d,cI (λh=>d h.1)];have m:=h9 k
   congr 1
   exact tg λx e=>by rw[g x e (b+d_ k) VW (hi.2.2.2.1 x e),show f+(b+d_ k)=f+b+d_ k by omega]
def wV{t:Tm}{f c:Int}(h:Bd t)(d:0<=f)(e:f<=10000000000)(m:0<=c)(g:c<=10000000000):qg t f c=some (t.up f c):=by
 unfold qg n5;rw[qJ (h:=λj k=>ue j k f c) (φ:=λi b=>.mk 1 (if f<=i-b then i+c else i) (.mk 0 []) []) (M:=1000000000000) (λi b n o p q=>?_) FU t 0 (by have:=dp;have:=h.agl;omega) h.agl h.ok h.agp VW (by have:=h.agl;omega)]
 ·rw[cH,cH,Tm.HF f c d t 0 VW h.ok,show f+0=f by omega]
 ·unfold ue gU;simp only[cv];rw[dF VW VW,ds VW VW]
  by_cases a:f<=i-b
  ·rw[cK a,show rZ (i-b) f=true by rw[fC];exact a];rfl
  ·rw[cI a,show rZ (i-b) f=false by
    cases l:rZ (i-b) f with
    |false=>rfl|true=>exact absurd ((fC _ _).1 l) a];rfl
def jf(k:Int):nb k=some (gy k):=by
 unfold nb gy;rw[kS];simp only[rZ,A8,wh];rw[<-Bool.decide_and];exact xi.2 (by simp only[Ja];omega)
def Fm.mY{k:Int}{s:Ty}{ts:List Tm}{l:List Fm}(h:(Fm.mk k s ts l).ok=true):s.agl<=64/\(∀t∈ts,t.ok=true)/\(∀f∈l,f.ok=true):=by
 rw[Fm.eD] at h;simp only[ez,iC] at h;refine⟨?_,h.1.2,h.2⟩;have hn:=h.1.1;unfold Fm.node at hn
 split at hn
 ·simp only[ez] at hn;rw[(Ty.iR s).1 hn.1.1,Ty.cJ];simp[cU]
 ·split at hn
  ·simp only[ez] at hn;rw[(Ty.iR s).1 hn.1.1,Ty.cJ];simp[cU]
  ·simp only[ez,kn] at hn;exact dE hn.1.1.2
def Fm.zG(ψ:Tm->Int->Tm)(b:Int):Fm->Fm
 |.mk k s ts l=>.mk k s (ts.map λt=>ψ t b) (l.attach.map λx=>Fm.zG ψ (b+qB k) x.1)
decreasing_by
 have:=Vg x.2;simp only[Fm.mk.sizeOf_spec];omega
def Fm.tr(ψ:Tm->Int->Tm)(b k:Int)(s:Ty)(ts:List Tm)(l:List Fm):(Fm.mk k s ts l).zG ψ b=.mk k s (ts.map λt=>ψ t b) (l.map (Fm.zG ψ (b+qB k))):=by
 rw[Fm.zG]
 congr 1
 exact Za
def kq{h:Tm->Int->Option Tm}{ψ:Tm->Int->Tm}(J:∀t b,Bd t->0<=b->b<=1000000000->h t b=some (ψ t b)):∀(n:Nat) (f:Fm) (b:Int),f.agl<=n->f.agl<=50000000->f.ok=true->f.agp 1000000000000=true->0<=b->b+f.agl<=1000000000->dM n f b (λ(s:Unit) (q:Tm) (w:Int)=>mr (h q w) s) ()=some (f.zG ψ b,()):=by
 intro n
 induction n with
 |zero=>intro f b h;have:=f.db;omega
 |succ n K=>
  intro f b hn L M A N B;cases f with
  |mk k s ts l=>
   rw[Fm.cJ] at hn L B;have O:=eG Tm.agl ts λt _=>t.db;have P:=eG Fm.agl l λt _=>t.db;obtain⟨Q,C,D⟩:=Fm.mY M;rw[Fm.dI,ez,iC,iC] at A;rw[dM,Fm.tr];simp only[Fm.dv,Fm.cZ,Fm.da,Fm.eN,cN];rw[kF VW,cv,cT VW,cL];have R:=wG k
   have m:∀(us:List Tm) (j:Nat) (v:List Tm),(∀t∈us,t∈ts)->v.length+us.length<=50000000->dP (λ(S:Int) (E:Tm)=>(nk λ(v91:List Tm) (F:Unit)=>
      cX (mr (h E b) F) λi x=>
      fY (eM v91 [i])<|some ((.next ((eV v91 [i]),x)):eu ((List Tm)×Unit) (Fm×Unit)))) us j (v,())=some (.inl (v++us.map (λt=>ψ t b),())):=by
    intro us
    induction us with
    |nil=>intro j v _ _;simp|cons t us o=>
     intro j v hm G;simp only[hW] at G;have d:=hm t aaB;have H:=c6 Tm.agl d;rw[dq];simp only[nk];rw[J t b ⟨C t d,A.1 t d,VW⟩ N VW,wc,cH,dt aaP,cL];simp only[cv,dr];rw[eb];have:=o (j+1) (v++[ψ t b]) (λu hu=>hm u (by simp[hu])) aaP;rw[this];simp
   rw[m ts 0 [] (λt h=>h) aaP,cv];simp only[cS,nk];rw[jf,cv]
   have p:∀(us:List Fm) (j:Nat) (v:List Fm),(∀t∈us,t∈l)->v.length+us.length<=50000000->dP (λ(y:Int) (e:Fm)=>(nk λ(a:List Fm) (v212:Unit)=>
      cX (dM n e (b+qB k) (λ(s:Unit) (q:Tm) (w:Int)=>mr (h q w) s) v212) λc g=>
      fY (eM a [c])<|some ((.next ((eV a [c]),g)):eu ((List Fm)×Unit) (Fm×Unit)))) us j (v,())=some (.inl (v++us.map (Fm.zG ψ (b+qB k)),())):=by
    intro us
    induction us with
    |nil=>intro j v _ _;simp|cons t us o=>
     intro j v hm G;simp only[hW] at G;have d:=hm t aaB;have H:=c6 Fm.agl d;rw[dq];simp only[nk];rw[K t (b+qB k) VW VW (D t d) (A.2 t d) VW VW,cH,dt aaP,cL];simp only[cv,dr];rw[eb];have:=o (j+1) (v++[t.zG ψ (b+qB k)]) (λu hu=>hm u (by simp[hu])) aaP;rw[this];simp
   have fin:(fY (eg l)<|cG (dP (λ(y:Int) (e:Fm)=>(nk λ(a:List Fm) (v212:Unit)=>
      cX (dM n e (b+qB k) (λ(s:Unit) (q:Tm) (w:Int)=>mr (h q w) s) v212) λc g=>
      fY (eM a [c])<|some ((.next ((eV a [c]),g)):eu ((List Fm)×Unit) (Fm×Unit)))) l 0 ([],())) (fi (nk λ(a:List Fm) (v212:Unit)=>some ((Fm.mk k s ([]++ts.map λt=>ψ t b) a),v212)) (λr=>some r)))=some (Fm.mk k s (ts.map λt=>ψ t b) (l.map (Fm.zG ψ (b+qB k))),()):=by
    rw[cT VW,cL,p l 0 [] (λt h=>h) aaP,cv];simp
   by_cases z:gy k=true
   ·rw[cK z]
    have I:b+qB k=b+1:=by unfold qB;rw[cK z]
    rw[I] at fin|-;rw[ds VW VW];exact fin
   ·rw[cI z]
    have I:b+qB k=b:=by unfold qB;rw[cI z];omega
    rw[I] at fin|-;exact fin
def Fm.HF(f c:Int):∀(g:Fm) (b:Int),g.zG (λt b=>t.up (f+b) c) b=g.up (f+b) c:=by
 intro g
 induction g using Fm.ind with
 |h k s ts l a=>
  intro b;rw[Fm.tr,Fm.ir]
  congr 1
  exact tg λx d=>by rw[a x d (b+qB k),show f+(b+qB k)=f+b+qB k by omega]
def lJ{g:Fm}{f c:Int}(d:g.ok=true)(hn:g.agl<=50000000)(e:g.agp 1000000000000=true)(m:0<=f)(i:f<=1000000000)(j:0<=c)(a:c<=10000000000):dU g f c=some (g.up f c):=by
 unfold dU;rw[kq (h:=λk l=>l7 k l f c) (ψ:=λt b=>t.up (f+b) c) (λt b h n o=>?_) FU g 0 (by have:=dp;omega) hn d e VW VW]
 ·rw[cH,Fm.HF f c g 0,show f+0=f by omega]
 ·unfold l7;rw[ds VW VW,wV h VW VW j a];rfl
def Tm.Mh{i:Int}{s:Ty}{l:List Tm}(a:(Tm.mk 1 i s l).ok=true):l=[]/\s=.mk 0 []:=by
 have hi:=Tm.ib a;constructor
 ·have:=hi.2.2.2.2;unfold fm at this;rw[cK (.inl rfl)] at this;exact Dq VW
 ·rw[Tm.eD] at a;simp only[Tm.node,ez] at a;have:=a.1.2;rw[cI aaa] at this;exact(Ty.iR s).1 this
def GG(a:Int)(s:Tm)(i b:Int):Tm:=if i-b=a then s.up 0 (a+b)else if a<i-b then .mk 1 (i-1) (.mk 0 []) [] else .mk 1 i (.mk 0 []) []
def Tm.Dg(a:Int)(s:Tm):∀(t:Tm) (b:Int),t.ok=true->t.zG (GG a s) b=Tm.j3 (a+b) t s:=by
 intro t
 induction t using Tm.ind with
 |h k i ty l j=>
  intro b d;have hi:=Tm.ib d;rw[Tm.tr,Tm.ka]
  by_cases c:k=1
  ·subst c;obtain⟨rfl,rfl⟩:=Tm.Mh d;rw[cK rfl,cK rfl];unfold GG Tm.pC
   by_cases e:i-b=a
   ·rw[cK e,cK VW]
   ·rw[cI e,cI (show¬i=a+b by omega)]
    by_cases f:a<i-b
    ·rw[cK f,cK VW]
    ·rw[cI f,cI VW]
  ·rw[cI c,cI c]
   congr 1
   exact tg λx g=>by rw[j x g (b+d_ k) (hi.2.2.2.1 x g),show a+(b+d_ k)=a+b+d_ k by omega]
def AL(s:Tm):Prop:=∀c,0<=c->c<=10000000000->qg s 0 c=some (s.up 0 c)
def Bd.lift{s:Tm}(h:Bd s):AL s:=λc a b=>wV h VW VW a b
def Fc{t s:Tm}{a:Int}(h:Bd t)(hs:AL s)(K:0<=a)(D:a<=1000000000):AJ t a s=some (Tm.j3 a t s):=by
 unfold AJ n5;have hn:=h.agl
 have key:∀(n:Nat) (t:Tm) (b:Int),t.agl<=n->t.agl<=50000000->t.ok=true->t.agp 1000000000000=true->0<=b->b+t.agl<=1000000000->fA n t b (λ(f:Unit) (m:Int) (g:Int)=>mr (l6 m g a s) f) ()=fA n t b (λ(f:Unit) (m:Int) (g:Int)=>mr (if g<=1000000000 then l6 m g a s else some (GG a s m g)) f) ():=by
  intro n
  induction n with
  |zero=>intro t b h;have:=t.db;omega
  |succ n E=>
   intro t b hn r F C G y;cases t with
   |mk k i ty l=>
    rw[Tm.cJ] at hn r y;rw[Tm.dI,ez,Ja,iC] at C;have hi:=Tm.ib F;have H:=h9 k;rw[fA,fA]
    by_cases z:k=1
    ·subst z;rw[cK aa7,cK aa7,cK VW]
    ·rw[cI (by simpa[dm] using z),cI (by simpa[dm] using z)];simp only[Tm.dv,Tm.cZ,Tm.da,Tm.dW,cN];rw[rl k b VW VW]
     have loop:∀(ts:List Tm) (j:Nat) (v:List Tm),(∀t∈ts,t∈l)->dP (λ(A:Int) (p:Tm)=>(nk λ(d:List Tm) (v107:Unit)=>
        cX (fA n p (b+d_ k) (λ(f:Unit) (m:Int) (g:Int)=>mr (l6 m g a s) f) v107) λe o=>
        fY (eM d [e])<|some ((.next ((eV d [e]),o)):eu ((List Tm)×Unit) (Tm×Unit)))) ts j (v,())=dP (λ(A:Int) (p:Tm)=>(nk λ(d:List Tm) (v107:Unit)=>
        cX (fA n p (b+d_ k) (λ(f:Unit) (m:Int) (g:Int)=>mr (if g<=1000000000 then l6 m g a s else some (GG a s m g)) f) v107) λe o=>
        fY (eM d [e])<|some ((.next ((eV d [e]),o)):eu ((List Tm)×Unit) (Tm×Unit)))) ts j (v,()):=by
      intro ts
      induction ts with
      |nil=>intro j v _;rfl|cons t ts B=>
       intro j v hm;have q:=hm t aaB;have I:=c6 Tm.agl q;rw[dq,dq];simp only[nk];rw[E t (b+d_ k) VW VW (hi.2.2.2.1 t q) (C.2 t q) VW VW]
       congr 1
       funext c
       cases c with
       |next st=>
        obtain⟨J,u⟩:=st;exact B (j+1) J (λu hu=>hm u (by simp[hu]))
       |_=>rfl
     rw[loop l 0 [] (λt h=>h)]
 rw[key FU t 0 (by have:=dp;omega) hn h.ok h.agp VW VW];rw[qJ (h:=λm g=>if g<=1000000000 then l6 m g a s else some (GG a s m g)) (φ:=GG a s) (M:=1000000000000) (λi b G L N O=>?_) FU t 0 (by have:=dp;omega) h.agl h.ok h.agp VW VW]
 ·rw[cH,cH,Tm.Dg a s t 0 h.ok,show a+0=a by omega]
 ·by_cases r:b<=1000000000
  ·rw[cK r];unfold l6 gU GG;rw[dF VW VW,ds VW VW]
   by_cases w:i-b=a
   ·rw[cK (by simpa[dm] using w),cK w,hs _ VW VW];rfl
   ·rw[cI (by simpa[dm] using w),cI w]
    by_cases x:a<i-b
    ·rw[cK (by rw[ei];exact x),cK x,dF VW VW];rfl
    ·rw[cI (by rw[ei];exact x),cI x];rfl
  ·rw[cI r]
def Fm.Dg(a:Int)(s:Tm):∀(g:Fm) (b:Int),g.zG (λt b=>Tm.j3 (a+b) t s) b=Fm.j3 (a+b) g s:=by
 intro g
 induction g using Fm.ind with
 |h k ty ts l c=>
  intro b;rw[Fm.tr,Fm.ka]
  congr 1
  exact tg λx d=>by rw[c x d (b+qB k),show a+(b+qB k)=a+b+qB k by omega]
def pI{g:Fm}{s:Tm}{a:Int}(B:g.ok=true)(hn:g.agl<=50000000)(I:g.agp 1000000000000=true)(hs:AL s)(P:0<=a)(J:a<=100000000):kB g a s=some (Fm.j3 a g s):=by
 unfold kB
 have key:∀(n:Nat) (f:Fm) (b:Int),f.agl<=n->f.agl<=50000000->f.ok=true->0<=b->b+f.agl<=100000000->dM n f b (λ(i:Unit) (p:Tm) (m:Int)=>mr (gS p m a s) i) ()=dM n f b (λ(i:Unit) (p:Tm) (m:Int)=>mr (if m<=100000000 then gS p m a s else some (Tm.j3 (a+m) p s)) i) ():=by
  intro n
  induction n with
  |zero=>intro f b h;have:=f.db;omega
  |succ n K=>
   intro f b hn C B L E;cases f with
   |mk k ty ts l=>
    rw[Fm.cJ] at hn C E;obtain⟨_,_,F⟩:=Fm.mY B;have M:=wG k;rw[dM,dM];simp only[Fm.dv,Fm.cZ,Fm.da,Fm.eN,cN,cK (show b<=100000000 by omega),jf,cv]
    have loop:∀(us:List Fm) (j:Nat) (v:List Fm) (x:Int),0<=x->x+cU Fm.agl l<=100000000->(∀t∈us,t∈l)->dP (λ(y:Int) (q:Fm)=>(nk λ(d:List Fm) (v212:Unit)=>
       cX (dM n q x (λ(i:Unit) (p:Tm) (m:Int)=>mr (gS p m a s) i) v212) λe w=>
       fY (eM d [e])<|some ((.next ((eV d [e]),w)):eu ((List Fm)×Unit) (Fm×Unit)))) us j (v,())=dP (λ(y:Int) (q:Fm)=>(nk λ(d:List Fm) (v212:Unit)=>
       cX (dM n q x (λ(i:Unit) (p:Tm) (m:Int)=>mr (if m<=100000000 then gS p m a s else some (Tm.j3 (a+m) p s)) i) v212) λe w=>
       fY (eM d [e])<|some ((.next ((eV d [e]),w)):eu ((List Fm)×Unit) (Fm×Unit)))) us j (v,()):=by
     intro us
     induction us with
     |nil=>intro j v x _ _ _;rfl|cons t us G=>
      intro j v x z H hm;have A:=hm t aaB;have N:=c6 Fm.agl A;rw[dq,dq];simp only[nk];rw[K t x VW VW (F t A) z VW]
      congr 1
      funext c
      cases c with
      |next st=>
       obtain⟨O,u⟩:=st;exact G (j+1) O x z H (λu hu=>hm u (by simp[hu]))
      |_=>rfl
    congr 1
    funext Q
    congr 1
    congr 1
    funext o
    cases o with
    |inr r=>rfl|inl st=>
     obtain⟨v,u⟩:=st;simp only[cS,nk]
     by_cases D:gy k=true
     ·rw[cK D,cK D,ds VW VW];rw[show(([]:List Fm),u)=([],())from rfl,loop l 0 [] (b+1) VW VW (λt h=>h)]
     ·rw[cI D,cI D];rw[show(([]:List Fm),u)=([],())from rfl,loop l 0 [] b VW VW (λt h=>h)]
 rw[key FU g 0 (by have:=dp;omega) hn B VW VW];rw[kq (h:=λp m=>if m<=100000000 then gS p m a s else some (Tm.j3 (a+m) p s)) (ψ:=λt b=>Tm.j3 (a+b) t s) (λt b h L R=>?_) FU g 0 (by have:=dp;omega) hn B I VW VW]
 ·rw[cH,Fm.Dg a s g 0,show a+0=a by omega]
 ·by_cases C:b<=100000000
  ·rw[cK C];unfold gS;rw[ds VW VW,Fc h hs VW VW];rfl
  ·rw[cI C]
def yW{a i b c:Int}(d:-1000000000000000<=i)(e:i<=1000000000000000)(f:0<=b)(g:b<=10000000000)(j:0<=c)(k:c<=10000000000):mU i b a c=some (c+if i-b=a then 1 else 0):=by
 unfold mU;rw[dF VW VW]
 by_cases h:i-b=a
 ·rw[cK (by simpa[dm] using h),cK h,ds VW VW]
 ·rw[cI (by simpa[dm] using h),cI h,td]
def yY(a:Int):∀(n:Nat) (t:Tm) (b c:Int),t.agl<=n->t.agl<=50000000->t.ok=true->t.agp 1000000000000=true->0<=b->b+t.agl<=1000000000->0<=c->c+t.agl<=1000000000->gn n t b (λ(s:Int) (f:Int) (g:Int)=>mU f g a s) c=some (c+(t.agr (a+b):Int)):=by
 intro n
 induction n with
 |zero=>intro t b c h;have:=t.db;omega
 |succ n y=>
  intro t b c hn z A w B m x C;cases t with
  |mk k i s l=>
   rw[Tm.cJ] at hn z m C;have hlen:=Tm.dK l;have hi:=Tm.ib A;rw[Tm.dI,ez,Ja,iC] at w;have D:=h9 k;rw[gn,Tm.ej];simp only[cN]
   have loop:∀(ts:List Tm) (j:Nat) (v:Int),(∀t∈ts,t∈l)->0<=v->v+cU Tm.agl ts<=1000000000->dP (λ(E:Int) (o:Tm)=>(λ(v28:Int)=>
      cG (gn n o (b+d_ k) (λ(s:Int) (f:Int) (g:Int)=>mU f g a s) v28) λp=>
      some ((.next p):eu Int Int))) ts j v=some (.inl (v+(cU (Tm.agr (a+b+d_ k)) ts:Int))):=by
    intro ts
    induction ts with
    |nil=>intro j v _ _ _;simp[cU]|cons t ts q=>
     intro j v hm v0 v1;simp only[cU] at v1|-;have d:=hm t aaB;have F:=c6 Tm.agl d;have G:=t.fD (a+b+d_ k);rw[dq,y t (b+d_ k) v VW VW (hi.2.2.2.1 t d) (w.2 t d) VW VW v0 VW,show a+(b+d_ k)=a+b+d_ k by omega];simp only[cv,dr];rw[q (j+1) _ (λu hu=>hm u (by simp[hu])) VW VW]
     congr 2
     push_cast
     omega
   by_cases r:k=1
   ·subst r;rw[cK (show dm (Tm.mk 1 i s l).agj 1=true from rfl)];simp only[Tm.cZ,Tm.da,Tm.dW];rw[yW VW VW B VW x VW,cv,rl 1 b VW VW,cT VW,cL];rw[loop l 0 _ (λt h=>h) (by split<;>omega) (by split<;>omega)];simp only[cv,cS]
    congr 1
    by_cases e:i-b=a
    ·rw[cK e,cK (show True/\i=a+b from⟨trivial,VW⟩)];omega
    ·rw[cI e,cI (show¬(True/\i=a+b)fromλh=>e VW)];omega
   ·rw[cI (show¬dm (Tm.mk k i s l).agj 1=true by simpa[dm] using r),cI (show¬(k=1/\i=a+b)fromλh=>r h.1)];simp only[Tm.cZ,Tm.da,Tm.dW];rw[rl k b VW VW,cT VW,cL];rw[loop l 0 c (λt h=>h) x VW];simp only[cv,cS]
    congr 1
    push_cast
    omega
def ve{t:Tm}(a:Int)(h:Bd t):tV t a=some (t.agr a:Int):=by
 unfold tV pq;have hn:=h.agl;rw[yY a FU t 0 0 (by have:=dp;omega) hn h.ok h.agp VW VW VW VW];simp only[cv];rw[show a+0=a by omega,Yu]
def uL{a:Int}(U:0<=a)(H:a<=100000000):∀(n:Nat) (f:Fm) (b c:Int),f.agl<=n->f.agl<=50000000->f.ok=true->f.agp 1000000000000=true->0<=b->b+f.agl<=100000000->0<=c->c+f.agl<=1000000000->iu n f b (λ(s:Int) (p:Tm) (q:Int)=>iH p q s a) c=some (c+(f.agr (a+b):Int)):=by
 intro n
 induction n with
 |zero=>intro f b c h;have:=f.db;omega
 |succ n I=>
  intro f b c hn J K r V w L M;cases f with
  |mk k s ts l=>
   rw[Fm.cJ] at hn J w M;have N:=eG Tm.agl ts λt _=>t.db;have O:=eG Fm.agl l λt _=>t.db;obtain⟨_,y,z⟩:=Fm.mY K;rw[Fm.dI,ez,iC,iC] at r;have P:=wG k;rw[iu,Fm.ej];simp only[Fm.cZ,Fm.da,Fm.eN,cN];rw[cT VW,cL]
   have i:∀(us:List Tm) (j:Nat) (v:Int),(∀t∈us,t∈ts)->0<=v->v+cU Tm.agl us<=1000000000->dP (λ(Q:Int) (A:Tm)=>(λ(B:Int)=>
      cG (iH A b B a) λC=>
      some ((.next C):eu Int Int))) us j v=some (.inl (v+(cU (Tm.agr (a+b)) us:Int))):=by
    intro us
    induction us with
    |nil=>intro j v _ _ _;simp[cU]|cons t us e=>
     intro j v hm v0 v1;simp only[cU] at v1|-;have d:=hm t aaB;have D:=c6 Tm.agl d;have R:=t.fD (a+b);rw[dq];unfold iH at e|-;rw[ds (a:=a) VW VW,ve (a+b) ⟨y t d,r.1 t d,VW⟩];simp only[cv,dr];rw[ds VW VW];have:=e (j+1) (v+(t.agr (a+b):Int)) (λu hu=>hm u (by simp[hu])) VW VW;rw[ds (a:=a) VW VW] at this;rw[this]
     congr 2
     push_cast
     omega
   rw[i ts 0 c (λt h=>h) L VW];have S:=gP (f:=Tm.agr (a+b)) (g:=Tm.agl) (l:=ts) λx _=>x.fD _;simp only[cv,cS];rw[jf,cv]
   have m:∀(us:List Fm) (j:Nat) (v:Int),(∀t∈us,t∈l)->0<=v->v+cU Fm.agl us<=1000000000->dP (λ(T:Int) (E:Fm)=>(λ(v72:Int)=>
      cG (iu n E (b+qB k) (λ(s:Int) (p:Tm) (q:Int)=>iH p q s a) v72) λF=>
      some ((.next F):eu Int Int))) us j v=some (.inl (v+(cU (Fm.agr (a+b+qB k)) us:Int))):=by
    intro us
    induction us with
    |nil=>intro j v _ _ _;simp[cU]|cons t us e=>
     intro j v hm v0 v1;simp only[cU] at v1|-;have d:=hm t aaB;have D:=c6 Fm.agl d;have R:=t.fD (a+b+qB k);rw[dq,I t (b+qB k) v VW VW (z t d) (r.2 t d) VW VW v0 VW,show a+(b+qB k)=a+b+qB k by omega];simp only[cv,dr];rw[e (j+1) _ (λu hu=>hm u (by simp[hu])) VW VW]
     congr 2
     push_cast
     omega
   have fin:=m l 0 (c+(cU (Tm.agr (a+b)) ts:Int)) (λt h=>h) VW VW
   by_cases o:gy k=true
   ·rw[cK o]
    have G:qB k=1:=by unfold qB;rw[cK o]
    rw[G] at fin|-;rw[ds VW VW,cT VW,cL,fin];simp only[cv,cS]
    congr 1
    push_cast
    omega
   ·rw[cI o]
    have G:qB k=0:=by unfold qB;rw[cI o]
    rw[G] at fin|-;rw[td b] at fin;rw[cT VW,cL,fin];simp only[cv,cS]
    congr 1
    push_cast
    omega
def lj{f:Fm}{a:Int}(c:f.ok=true)(hn:f.agl<=50000000)(d:f.agp 1000000000000=true)(e:0<=a)(b:a<=100000000):kR f a=some (f.agr a:Int):=by
 unfold kR;rw[uL e b FU f 0 0 (by have:=dp;omega) hn c d VW VW VW VW];simp only[cv];rw[show a+0=a by omega,Yu]
noncomputable def kP (f:Fm) (t:Tm):Fm×Int:=if 4096<(Fm.j3 0 f t).agl then(.mk 0 (.mk 0 []) [] [],4)else(Fm.j3 0 f t,0)
noncomputable def A5 (f:Fm) (g:List Ty):Int:=if rb g≠0 then rb g else if f.err≠0 then f.err else f.qd g
def gA.of{g:List Ty}(h:rb g=0):gA g/\g.length<=16:=by
 unfold rb at h
 split at h
 ·cases h
 ·rename_i d;refine⟨λs hs=>?_,VW⟩
  have key:∀l:List Ty,eC (l.map Ty.err)=0->∀s∈l,s.err=0:=by
   intro l
   induction l with
   |nil=>intro _ s hs;cases hs
   |cons a l c=>
    intro h s hs;simp only[y5,eC] at h
    by_cases b:a.err=0
    ·rw[cK b] at h;rcases iL.1 hs with rfl|hs
     ·exact b
     ·exact c h s hs
    ·rw[cI b] at h;exact absurd h b
  exact key g h s hs
def pK{g:List Ty}(hg:gA g)(c:g.length<=1000000):od g=some (g.map nI):=by
 unfold od;simp only[cN]
 rw[cT VW,cL,fy nI g 0 [] aaP (λj x v a b=>by
  rw[hU (hg x a),cv,dt (by simpa using b),cL,eb])]
 simp
def rD{f:Fm}{g:List Ty}(hw:f.wt<=1000000000)(c:g.length<=1000000)(h:∀t∈g,t.agl<=1000000000):my g f=some (A5 f g):=by
 unfold my A5;rw[rv g c h,cv]
 by_cases a:rb g=0
 ·rw[cI (by rw[cV];simpa using a),cI (by simpa using a),fQ hw,cv]
  by_cases he:f.err=0
  ·obtain⟨hg,d⟩:=gA.of a;obtain⟨b,hn⟩:=Fm.eJ he;rw[cI (by rw[cV];simpa using he),cI (by simpa using he),pK hg c,cv,qi f b FU (by have:=dp;omega) g hg VW hn];rfl
  ·rw[cK (by rw[cV];exact he),cK he]
 ·rw[cK (by rw[cV];exact a),cK a]
def pF{f:Fm}{g:List Ty}(hw:f.wt<=1000000000)(c:g.length<=1000000)(h:∀t∈g,t.agl<=1000000000):jh g f=some (A5 f g):=by
 unfold jh jP A5;rw[nK g c h,cv]
 by_cases a:rb g=0
 ·rw[cI (by rw[cV];simpa using a),cI (by simpa using a),g_ hw,cv]
  by_cases he:f.err=0
  ·obtain⟨hg,d⟩:=gA.of a;obtain⟨b,hn⟩:=Fm.eJ he;rw[cI (by rw[cV];simpa using he),cI (by simpa using he),ug f b FU (by have:=dp;omega) g hg VW hn];rfl
  ·rw[cK (by rw[cV];exact he),cK he];rfl
 ·rw[cK (by rw[cV];exact a),cK a]
def Bo{f:Fm}{t:Tm}(he:f.err=0)(b:t.err=0)(g:f.agp 1000000000000=true)(d:t.agp 1000000000000=true):gQ f t=some (kP f t):=by
 obtain⟨a,hn⟩:=Fm.eJ he;obtain⟨c,e⟩:=Tm.eJ b;have hw:=f.gm a;have j:=t.gm c;have n:=t.db;have k:=f.fD 0;have l:=Fm.mi t f 0 a;unfold gQ kP;rw[k7 VW,cH,mI VW,cH,lj a VW g VW VW,cv,cK he,cK b];rw[dF VW VW]
 have hmul:(f.agr 0:Int)*((t.agl:Int)-1)=((f.agr 0*t.agl:Nat):Int)-(f.agr 0:Int):=by rw[R5,QP];push_cast;rfl
 have m:f.agr 0*t.agl<=4096*4096:=DC VW e;have h:f.agr 0<=f.agr 0*t.agl:=Wd _ VW;rw[ux (by rw[hmul];omega) (by rw[hmul];omega),hmul,ds VW VW]
 by_cases i:4096<(Fm.j3 0 f t).agl
 ·rw[cK (by rw[ei];omega),cK i]
 ·rw[cI (by rw[ei];omega),cI i,pI a VW g (Bd.lift ⟨c,d,VW⟩) VW VW];rfl
def AI{f:Fm}{s:Tm}(he:f.err=0)(b:s.err=0)(h:f.agp 536870912=true)(c:s.agp 536870912=true)(d:(Fm.j3 0 f s).ok=true):xU f 0 s=some (kP f s):=by
 obtain⟨a,hn⟩:=Fm.eJ he;obtain⟨e,g⟩:=Tm.eJ b;have hw:=f.gm a;have k:=s.gm e;have l:=s.db;have m:=f.fD 0;have n:=Fm.mi s f 0 a;unfold xU kP;rw[g_ VW,he];simp only[cv,cV,ne_eq,PY,jC,cN,gH,ei,ja,nA];rw[cI VW,iY VW,b,wD FU f _ (by rw[dp];omega) VW,h,wW _ VW,c];simp only[cv,PY,jC,if_true,JY,lU];rw[mW FU f (by rw[dp];omega) VW,AS FU f 0 (by rw[dp];omega) VW VW VW,j_ FU s (by rw[dp];omega) VW];simp only[cv];rw[dF VW VW]
 have hmul:(f.agr 0:Int)*((s.agl:Int)-1)=((f.agr 0*s.agl:Nat):Int)-(f.agr 0:Int):=by rw[R5,QP];push_cast;rfl
 have o:f.agr 0*s.agl<=4096*4096:=DC VW g;have i:f.agr 0<=f.agr 0*s.agl:=Wd _ VW;rw[ux (by rw[hmul];omega) (by rw[hmul];omega),hmul,ds VW VW]
 by_cases j:4096<(Fm.j3 0 f s).agl
 ·rw[cK VW,cK j]
 ·rw[cI VW,cI j,FG FU f 0 0 s (by rw[dp];omega) VW VW VW VW (Fm.iM f VW h) a VW (Tm.iM s VW c)];simp only[cv,td];have p:=Fm.gm _ d;rw[hI VW];rfl
def uj{α:Type}{E:α->α->Option Bool}{m l:List α}(hlen:l.length=m.length)(h:∀x∈l,∀y,∃r,E x y=some r/\(r=true↔x=y)):∃o:Unit⊕Bool,dP (λ(j:Int) (x:α) (_:Unit)=>cG (df m j) λy=>cG (E x y) λz=>if z then(some (eu.next ()):Option (eu Unit Bool))else some (eu.ret false)) l 0 ()=some o/\(o=.inl ()/\l=m\/o=.inr false/\l≠m):=by
 let p:α->α->Bool:=λx y=>(E x y).getD false
 have c:∀x∈l,∀y,E x y=some (p x y)/\(p x y=true↔x=y):=by
  intro x a y;obtain⟨r,d,b⟩:=h x a y
  have e:p x y=r:=by show(E x y).getD false=r;rw[d];rfl
  rw[e];exact⟨d,b⟩
 have key:=rn (F:=λ(j:Int) (x:α) (_:Unit)=>cG (df m j) λy=>cG (E x y) λz=>if z then some (eu.next ())else some (eu.ret false)) p m l 0 m rfl hlen (by
  intro k x y a hy;rw[e_,hy];simp only[cv];rw[(c x a y).1]
  rfl)
 have he:=rK p l m λx a y=>(c x a y).2;rw[key];cases b:pN p l m with
 |false=>rw[b] at he;exact⟨_,rfl,.inr ⟨rfl,λe=>absurd (he.2 e) aaB⟩⟩
 |true=>rw[b] at he;exact⟨_,rfl,.inl ⟨rfl,he.1 rfl⟩⟩
def uH:∀(n:Nat) (a b:Fm),a.wt<=n->a.wt<=1000000000->∃r,kH n a b=some r/\(r=true↔a=b):=by
 intro n
 induction n with
 |zero=>intro t b h;have:=t.fO;omega
 |succ n q=>
  intro a b h u;cases a with
  |mk k s ts l=>
  cases b with
  |mk k' f us m=>
   rw[Fm.dC] at h u;have B:=Fm.jc l;have v:=Tm.jc ts;rw[kH];simp only[Fm.cZ,Fm.da,Fm.eN,Fm.dv,cN,cT (l:=l) VW,cT (l:=ts) VW,cL,cV,dz]
   have no:¬(k=k'/\s=f/\ts=us/\l=m)->∃r,some false=some r/\(r=true↔Fm.mk k s ts l=Fm.mk k' f us m):=by
    intro hn;refine⟨false,rfl,?_⟩;simp only[lU,Ea,Fm.mk.injEq];exact hn
   by_cases d:k≠k'
   ·rw[cK d,cK trivial];exact no λh=>d h.1
   ·rw[cI d];obtain⟨r,w,p⟩:=ru FU s f (by rw[dp];omega) VW;rw[w];simp only[cv]
    by_cases e:r=true
    ·have hs:=p.1 e;rw[cK e]
     by_cases g:(ts.length:Int)≠us.length
     ·rw[cK g,cK trivial];exact no λh=>g (by rw[h.2.2.1])
     ·rw[cI g]
      by_cases hm:(l.length:Int)≠m.length
      ·rw[cK hm];exact no λh=>hm (by rw[h.2.2.2])
      ·rw[cI hm];obtain⟨o,z,k2⟩:=uj (E:=λx y=>hY FU x y) (l:=ts) (m:=us) VW (λx c y=>rO FU x y (by have:=c6 Tm.wt c;rw[dp];omega) (by have:=c6 Tm.wt c;omega));rw[z];rcases k2 with⟨rfl,i⟩|⟨rfl,i⟩
       ·simp only[cv,cS];obtain⟨o,q1,A⟩:=uj (E:=λx y=>kH n x y) (l:=l) (m:=m) VW (λx c y=>q x y (by have:=c6 Fm.wt c;omega) (by have:=c6 Fm.wt c;omega));rw[q1];rcases A with⟨rfl,j⟩|⟨rfl,j⟩
        ·exact⟨true,rfl,by simp only[RR,Fm.mk.injEq];exact⟨uC.1 d,hs,i,j⟩⟩
        ·exact no λh=>j h.2.2.2
       ·exact no λh=>i h.2.2.1
    ·rw[cI e,cK trivial];exact no λh=>e (p.2 h.2.1)
def u7:∀(n:Nat) (a b:Fm),a.wt<=n->a.wt<=1000000000->∃r,k9 n a b=some r/\(r=true↔a=b):=by
 intro n
 induction n with
 |zero=>intro t b h;have:=t.fO;omega
 |succ n u=>
  intro a b h v;cases a with
  |mk k s ts l=>
  cases b with
  |mk k' i us m=>
   rw[Fm.dC] at h v;have C:=Fm.jc l;have w:=Tm.jc ts;rw[k9];simp only[Fm.cZ,Fm.da,Fm.eN,Fm.dv,cN,cT (l:=l) VW,cL,cV,dz]
   have no:¬(k=k'/\s=i/\ts=us/\l=m)->∃r,some false=some r/\(r=true↔Fm.mk k s ts l=Fm.mk k' i us m):=by
    intro hn;refine⟨false,rfl,?_⟩;simp only[lU,Ea,Fm.mk.injEq];exact hn
   have c:∃r,lp ts us=some r/\(r=true↔ts=us):=by
    unfold lp;simp only[cV,dz,cN,cT (l:=ts) VW,cL]
    by_cases d:(ts.length:Int)≠us.length
    ·rw[cK d];exact⟨false,rfl,by simp only[lU,Ea];rintro rfl;exact d rfl⟩
    ·rw[cI d];obtain⟨o,z,k2⟩:=uj (E:=λx y=>iK FU x y) (l:=ts) (m:=us) VW (λx e y=>ra FU x y (by have:=c6 Tm.wt e;rw[dp];omega) (by have:=c6 Tm.wt e;omega));rw[z];rcases k2 with⟨rfl,j⟩|⟨rfl,j⟩
     ·exact⟨true,rfl,by simpa using j⟩
     ·exact⟨false,rfl,by simpa using j⟩
   by_cases f:k≠k'
   ·rw[cK f,cK trivial];exact no λh=>f h.1
   ·rw[cI f,fv VW];simp only[cv]
    by_cases g:s.jO i=true
    ·have hs:=(Ty.iV _ _).1 g;obtain⟨r,A,q⟩:=c;rw[cK g,A];simp only[cv]
     by_cases d:r=true
     ·rw[cK d]
      by_cases hm:(l.length:Int)≠m.length
      ·rw[cK hm];exact no λh=>hm (by rw[h.2.2.2])
      ·rw[cI hm];obtain⟨o,q1,B⟩:=uj (E:=λx y=>k9 n x y) (l:=l) (m:=m) VW (λx e y=>u x y (by have:=c6 Fm.wt e;omega) (by have:=c6 Fm.wt e;omega));rw[q1];rcases B with⟨rfl,p⟩|⟨rfl,p⟩
       ·exact⟨true,rfl,by simp only[RR,Fm.mk.injEq];exact⟨uC.1 f,hs,q.1 d,p⟩⟩
       ·exact no λh=>p h.2.2.2
     ·rw[cI d,cK trivial];exact no λh=>d (q.2 h.2.2.1)
    ·rw[cI g,cK trivial];exact no λh=>g ((Ty.iV _ _).2 h.2.1)
def yZ(l:List Ty)(t:Tm):Tm:=l.foldr (λs b=>.mk 2 0 s [b]) t
def L5{l:List Ty}(n:l.length<=1000):∀(i m:Nat) (t:Tm),i<=l.length->i<m->jb ((Ru λ(b:Int) (c:Int) (v59:Int) (d:Int) (e:List Ty) (f:List Tm)=>
   if(rZ b 0) then(
   cG (df l b) λg=>
   some (.next ((ea .i64 b 1),2,0,g.agj,g.agk,[(Tm.mk c v59 (Ty.mk d e) f)])))
   else(some (.vN (b,c,v59,d,e,f)))):(Int×Int×Int×Int×(List Ty)×(List Tm))->(Option (eu (Int×Int×Int×Int×(List Ty)×(List Tm)) (Tm)))) m ((i:Int)-1,t.agj,t.agm,t.cO.agj,t.cO.agk,t.agk)=some (.inl (-1,(yZ (l.take i) t).agj,(yZ (l.take i) t).agm,(yZ (l.take i) t).cO.agj,(yZ (l.take i) t).cO.agk,(yZ (l.take i) t).agk))
 |0,m+1,t,_,_=>by
  rw[gb];simp only[Ru];rw[cI (by rw[fC];omega)];rfl
 |i+1,m+1,t,hi,hm=>by
  rw[gb];simp only[Ru];rw[cK (by rw[fC];omega),show((i+1:Nat):Int)-1=(i:Int) by omega,e_,nw VW];simp only[cv,dr];rw[dF VW VW]
  have p:Ty.mk (l[i]).agj (l[i]).agk=l[i]:=by cases l[i];rfl
  have o:Tm.mk t.agj t.agm (Ty.mk t.cO.agj t.cO.agk) t.agk=t:=by cases t with|mk k j s a=>cases s;rfl
  have h:=L5 n i m (.mk 2 0 l[i] [t]) VW VW;rw[o];refine h.trans ?_;rw[Ww,nw VW];simp only[yZ,Yl,XY,YY,YN]
def tI(t:Tm)(l:List Ty)(b:l.length<=1000):w5 t l=some (yZ l t):=by
 unfold w5;simp only[cN];rw[dz,dF VW VW];have h:=L5 b l.length FU t (ig _) (Rn VW);rw[h,cv,Yy];generalize yZ l t=r;cases r with|mk k j s a=>cases s;rfl
def wJ(t a:Tm):rC t [a]=some (.mk 3 0 (.mk 0 []) [t,a]):=by cases t with|mk k j s l=>cases s;rfl
def C7(t a b:Tm):rC t [a,b]=some (.mk 3 0 (.mk 0 []) [.mk 3 0 (.mk 0 []) [t,a],b]):=by cases t with|mk k j s l=>cases s;rfl
def Rh:Tm:=yZ [.nat] (.mk 6 0 .nat [.mk 4 0 (.mk 0 []) [],yZ [.nat,.nat] (.mk 1 1 (.mk 0 []) []),.mk 1 0 (.mk 0 []) []])
def BM:vl=some Rh:=by
 unfold vl na sY gU Ah;simp only[qu,cv,tI _ _ (show[Ty.nat,Ty.nat].length<=1000 by decide),tI _ _ (show[Ty.nat].length<=1000 by decide)];rfl
def Wg:Tm:=yZ [.nat,.nat] (.mk 6 0 .nat [.mk 1 1 (.mk 0 []) [],yZ [.nat,.nat] (.mk 3 0 (.mk 0 []) [Rh,.mk 1 0 (.mk 0 []) []]),.mk 1 0 (.mk 0 []) []])
def C8:xL=some Wg:=by
 unfold xL na Ce gU Ah;simp only[BM,qu,cv,wJ,tI _ _ (show[Ty.nat,Ty.nat].length<=1000 by decide)];rfl
def Sh(a b:Tm):Fm:=.mk 1 (.mk 0 []) [.mk 3 0 (.mk 0 []) [.mk 3 0 (.mk 0 []) [Wg,.mk 5 0 (.mk 0 []) [a]],b],.mk 4 0 (.mk 0 []) []] []
def BJ(a b:Tm):vz a b=some (Sh a b):=by
 unfold vz sY sU;simp only[C8,cv,C7];rfl
def Ns:∀x y:Fin 8,∃z:Fin 8,pS .u8 (x:Nat) (y:Nat)=(z:Nat)/\((z:Nat)%2=1↔(x:Nat)%2=1/\(y:Nat)%2=1):=aaa
def PS:∀x y:Fin 8,∃z:Fin 8,vT .u8 (x:Nat) (y:Nat)=(z:Nat)/\((z:Nat)%2=1↔(x:Nat)%2=1\/(y:Nat)%2=1):=aaa
def Mk(b:Bool)(m:Int):Prop:=∃x:Fin 8,m=((x:Nat):Int)/\((x:Nat)%2=1↔b=true)
def Mk.and{a b:Bool}{x y:Int}(c:Mk a x)(hy:Mk b y):Mk (a&&b) (pS .u8 x y):=by
 obtain⟨x,rfl,d⟩:=c;obtain⟨y,rfl,e⟩:=hy;obtain⟨z,f,g⟩:=Ns x y;exact⟨z,f,by rw[g,d,e,ez]⟩
def Mk.or{a b:Bool}{x y:Int}(c:Mk a x)(hy:Mk b y):Mk (a||b) (vT .u8 x y):=by
 obtain⟨x,rfl,d⟩:=c;obtain⟨y,rfl,e⟩:=hy;obtain⟨z,f,g⟩:=PS x y;exact⟨z,f,by rw[g,d,e,nA]⟩
def Mk.one:Mk true 1:=⟨1,rfl,aaa⟩
def Mk.six:Mk false 6:=⟨6,rfl,aaa⟩
def Mk.four:Mk false 4:=⟨4,rfl,aaa⟩
def Mk.bit{b:Bool}{m:Int}(h:Mk b m):dw (pS .u8 m 1) 0=b:=by
 obtain⟨x,rfl,a⟩:=h
 have key:∀x:Fin 8,dw (pS .u8 ((x:Nat):Int) 1) 0=decide ((x:Nat)%2=1):=aaa
 rw[key x];cases b with
 |false=>exact zu (λh=>by have:=a.1 h;cases this)
 |true=>exact qk (a.2 rfl)
def Fm.Tk{a:Fm}(d:a.ok=true)(c:a.agj=2\/a.agj=3):∃p q,a=.mk a.agj (.mk 0 []) [] [p,q]/\p.ok=true/\q.ok=true:=by
 refine Fm.kC (p:=λa=>a.agj=2\/a.agj=3->∃p q,a=.mk a.agj (.mk 0 []) [] [p,q]/\p.ok=true/\q.ok=true) ?_ ?_ ?_ a d c
 ·intro a b _ _ h;rcases h with h|h<;>cases h
 ·intro k a b _ e f _ _ _;exact⟨a,b,rfl,e,f⟩
 ·intro k s a c _ _ _ h;have h:k=2\/k=3:=h;omega
def Fm.XF{a:Fm}(d:a.ok=true)(e:a.agj=1):∃u v,a=.mk 1 (.mk 0 []) [u,v] []/\u.ok=true/\v.ok=true:=by
 refine Fm.kC (p:=λa=>a.agj=1->∃u v,a=.mk 1 (.mk 0 []) [u,v] []/\u.ok=true/\v.ok=true) ?_ ?_ ?_ a d e
 ·intro a b f g _;exact⟨a,b,rfl,f,g⟩
 ·intro k a b c _ _ _ _ h;have h:k=1:=h;omega
 ·intro k s a c _ _ _ h;have h:k=1:=h;omega
def Tm.TQ{a:Tm}(e:a.ok=true)(f:a.agj=3):∃c d,a=.mk 3 0 .z [c,d]/\c.ok=true/\d.ok=true:=by
 refine Tm.kC (p:=λa=>a.agj=3->∃c d,a=.mk 3 0 .z [c,d]/\c.ok=true/\d.ok=true) ?_ ?_ ?_ ?_ ?_ ?_ ?_ ?_ ?_ ?_ ?_ ?_ ?_ a e f
 case refine_3=>intro a b g i _;exact⟨a,b,rfl,g,i⟩
 all_goals(intros;rename_i h;cases h)
def AR{k:Int}{s:Ty}{a:Fm}(R:(Fm.mk k s [] [a]).ok=true)(hn:(Fm.mk k s [] [a]).agl<=1000000)(I:a.agp 1000000000000=true)(n:a.ok=true):∃b t q ok,tK (.mk k s [] [a])=some (b,t,q,ok)/\(ok=true->q.ok=true/\q.agl<a.agl/\q.agp 1000000000000=true):=by
 rw[Fm.cJ] at hn;simp only[cU] at hn;have no:∃b t q ok,(some (false,(Tm.mk 0 0 (Ty.mk 0 []) []),(Fm.mk 0 (Ty.mk 0 []) [] []),false):Option (Bool×Tm×Fm×Bool))=some (b,t,q,ok)/\(ok=true->q.ok=true/\q.agl<a.agl/\q.agp 1000000000000=true):=⟨_,_,_,_,rfl,aaB⟩;unfold tK
 obtain⟨o,j,J,S⟩:∃o j,tF (dm (Fm.mk k s [] [a]).agj 4)=some (o,j)/\(j=2\/j=3):=by
  unfold tF
  split
  ·exact⟨_,_,rfl,.inr rfl⟩
  ·exact⟨_,_,rfl,.inl rfl⟩
 rw[J,cH];simp only[cN]
 by_cases E:dw (Fm.mk k s [] [a]).agj o=true
 ·rw[cK E,cK trivial];exact no
 rw[cI E]
 by_cases F:dw (Fm.mk k s [] [a]).cO.agj 1=true
 ·rw[cK F,cK trivial];exact no
 rw[cI F];simp only[Fm.cZ,dg,gd,cv]
 by_cases c3:dw a.agj j=true
 ·rw[cK c3,cK trivial];exact no
 rw[cI c3]
 have w:a.agj=2\/a.agj=3:=by
  have:a.agj=j:=by simpa[dw] using c3
  omega
 obtain⟨p,q,e,G,K⟩:=Fm.Tk n w;have x:a.agk=[p,q]:=(congrArg Fm.agk e).trans rfl
 have L:a.agl=1+p.agl+q.agl:=by rw[e,Fm.cJ];simp[cU];omega
 have l:p.agp 1000000000000=true/\q.agp 1000000000000=true:=by
  have f:=I;rw[e,Fm.dI] at f;simp only[IT,sC,CG,uQ,ez] at f;exact f
 have M:=p.db;rw[x];simp only[dg,ed,gd,jF,cv]
 by_cases y:dw p.agj 1=true
 ·rw[cK y];exact no
 rw[cI y]
 have z:p.agj=1:=by simpa[dw] using y
 obtain⟨u,v,g,hu,T⟩:=Fm.XF G z;have A:p.dc=[u,v]:=(congrArg Fm.dc g).trans rfl
 have h:u.agp 1000000000000=true:=by
  have:=l.1;rw[g,Fm.dI] at this;simp only[sC,ez] at this;exact this.1.1
 have N:p.agl=1+u.agl+v.agl:=by rw[g,Fm.cJ];simp[cU];omega
 rw[A];simp only[dg,gd,cv]
 by_cases c5:dw u.agj 3=true
 ·rw[cK c5,cK trivial];exact no
 rw[cI c5]
 have B:u.agj=3:=by simpa[dw] using c5
 obtain⟨c,d,i,U,O⟩:=Tm.TQ hu B;have C:u.agk=[c,d]:=(congrArg Tm.agk i).trans rfl
 have P:u.agl=1+c.agl+d.agl:=by rw[i,Tm.cJ];simp[cU];omega
 have D:d.agp 1000000000000=true:=by
  rw[i,Tm.dI] at h;simp only[sC,ez] at h;exact h.2.2.1
 rw[C];simp only[ed,jF,gd,cv];rw[ve 0 ⟨O,D,VW⟩,cv];have yes:∃b t m ok,(some (dm (Fm.mk k s [] [a]).agj 4,d,q,true):Option (Bool×Tm×Fm×Bool))=some (b,t,m,ok)/\(ok=true->m.ok=true/\m.agl<a.agl/\m.agp 1000000000000=true):=⟨_,_,_,_,rfl,λ_=>⟨K,VW,l.2⟩⟩
 by_cases H:nW (d.agr 0:Int) 0=true
 ·rw[cK H,cK trivial];exact no
 rw[cI H];have hw:=p.gm G;obtain⟨r,Q,_⟩:=uH FU p (Sh (.mk 1 0 (.mk 0 []) []) d) (by rw[dp];omega) VW;rw[show gU 0=some (Tm.mk 1 0 (.mk 0 []) [])from rfl,cv,BJ,cv,Q,cv];cases r with
 |true=>rw[show m9 true=false from rfl,cI aaa];exact yes|false=>rw[show m9 false=true from rfl,cK rfl];exact no
def EZ:∀(n:Nat) (f:Fm),f.agl<=n->f.agl<=1000000->f.ok=true->f.agp 1000000000000=true->∃m,lV n f=some m/\Mk f.has m:=by
 intro n
 induction n with
 |zero=>intro f h;have:=f.db;omega
 |succ n w=>
  intro f hn e x c;refine Fm.kC (p:=λf=>f.agl<=n+1->f.agl<=1000000->f.ok=true->f.agp 1000000000000=true->∃m,lV (n+1) f=some m/\Mk f.has m) ?_ ?_ ?_ f x hn e x c
  ·intro a b _ _ _ _ _ _;rw[lV,cK aa7];exact⟨6,rfl,by rw[Fm.has_eq];exact Mk.six⟩
  ·intro k a b y z B _ _ hn e _ c;rw[Fm.cJ] at hn e;simp only[cU] at hn e;rw[Fm.dI] at c;simp only[IT,sC,CG,uQ,ez] at c;obtain⟨A,C,r⟩:=w a VW VW z c.1;obtain⟨j,D,u⟩:=w b VW VW B c.2
   have d:k≠1:=VW
   have E:eH (dm k 2) true (dm k 3)=true:=by rcases y with rfl|rfl<;>rfl
   rw[lV,cI (show¬dm (Fm.mk k (.mk 0 []) [] [a,b]).agj 1=true by simpa[dm] using d)]
   have F:df [a,b] (ea .i64 (dn [a,b]) 1)=some b:=by rw[dF aaB aaB];rfl
   simp only[Fm.cZ,F,cv,D,cN];rw[cK (show eH (dm (Fm.mk k (.mk 0 []) [] [a,b]).agj 2) true (dm (Fm.mk k (.mk 0 []) [] [a,b]).agj 3)=true from E)];simp only[dg,gd,cv,C,Fm.da];refine⟨_,rfl,?_⟩;rw[Fm.I3,cI d];have l:=(r.and u).and Mk.six;rw[X_] at l;rcases y with rfl|rfl
   ·rw[show eH (dm 2 2) (vT .u8 j A) j=vT .u8 j A from rfl];have g:=(u.or r).and Mk.one;rw[CG] at g;have:=l.or g;rw[RY,Bool.or_comm] at this;simpa using this
   ·rw[show eH (dm 3 2) (vT .u8 j A) j=j from rfl];have g:=u.and Mk.one;rw[CG] at g;have:=l.or g;rw[RY] at this;simpa using this
  ·intro k s a y hs z _ hn e x c;have G:=e;rw[Fm.cJ] at hn e;simp only[cU] at hn e;rw[Fm.dI] at c;simp only[IT,sC,CG,uQ] at c;obtain⟨A,C,r⟩:=w a VW VW z c
   have d:k≠1:=VW
   have E:eH (dm k 2) true (dm k 3)=false:=by rcases y with rfl|rfl|rfl|rfl<;>rfl
   rw[lV,cI (show¬dm (Fm.mk k s [] [a]).agj 1=true by simpa[dm] using d)]
   have F:df [a] (ea .i64 (dn [a]) 1)=some a:=by rw[dF aaB aaB];rfl
   simp only[Fm.cZ,F,cv,C,cN];rw[cI (show¬eH (dm (Fm.mk k s [] [a]).agj 2) true (dm (Fm.mk k s [] [a]).agj 3)=true by rw[show eH (dm (Fm.mk k s [] [a]).agj 2) true (dm (Fm.mk k s [] [a]).agj 3)=false from E];decide)];obtain⟨b,t,q,ok,L,M⟩:=AR x G c z;rw[L]
   have fin:∀(v:Int) (K:Mk (Fm.mk k s [] [a]).has v),∃m,(OO (some (b,t,q,ok)) λN O H I=>if I then(cG (lV n H) λo=>some (vT .u8 (pS .u8 v 1) (pS .u8 o 4)))else(some (pS .u8 v 1)))=some m/\Mk (Fm.mk k s [] [a]).has m:=by
    intro v K;show∃m,(if ok then(cG (lV n q) λo=>some (vT .u8 (pS .u8 v 1) (pS .u8 o 4)))else(some (pS .u8 v 1)))=some m/\Mk (Fm.mk k s [] [a]).has m;have l:=K.and Mk.one;rw[CG] at l;cases ok with
    |false=>exact⟨_,rfl,l⟩|true=>
     obtain⟨d1,d2,d3⟩:=M rfl;obtain⟨j,D,u⟩:=w q VW VW d1 d3;rw[cK rfl,D];refine⟨_,rfl,?_⟩;have g:=u.and Mk.four;rw[X_] at g;have:=l.or g
     rwa [Yq] at this
   have i:(Fm.mk k s [] [a]).has=if k=5 then true else a.has:=by
    rw[Fm.zD,cI d]
   by_cases J:k=5
   ·subst J;rw[cK aa7];refine fin _ ?_;rw[i,cK rfl];have:=r.or Mk.one
    rwa [Bool.or_true] at this
   ·rw[cI (show¬dm (Fm.mk k s [] [a]).agj 5=true by simpa[dm] using J)];refine fin _ ?_;rw[i,cI J];exact r
def xB{f:Fm}(hw:f.wt<=1000000000)(b:f.agp 1000000000000=true):n_ f=some (if f.err≠0 then(false,f.err)else(f.has,0)):=by
 unfold n_ BV;rw[fQ hw,cv]
 by_cases he:f.err=0
 ·obtain⟨a,hn⟩:=Fm.eJ he;obtain⟨m,c,d⟩:=EZ FU f (by have:=dp;omega) VW a b;rw[cI (by rw[cV];simpa using he),c,cv,d.bit,cH,cI (by simpa using he)]
 ·rw[cK (by rw[cV];exact he),cH,cK he]
def jm{α:Type}(m:List (Int×α)):List Int:=m.map (·.1)
def xf{α:Type}(k:Int)(v:α):∀(m:List (Int×α)) (x:Int),x∈jm (sm m k v)↔x=k\/x∈jm m
 |[],x=>by simp[sm,jm]|p::m,x=>by
  unfold sm
  by_cases h:p.1=k
  ·rw[cK h];subst h;simp[jm]
  ·rw[cI h];have a:=xf k v m x;simp only[jm,y5,iL] at a|-;rw[a];constructor
   ·rintro(h|h|h)
    ·exact .inr (.inl h)
    ·exact .inl h
    ·exact .inr (.inr h)
   ·rintro(h|h|h)
    ·exact .inr (.inl h)
    ·exact .inl h
    ·exact .inr (.inr h)
def vC{α:Type}(k:Int)(v:α):∀(m:List (Int×α)),(jm m).Nodup->(jm (sm m k v)).Nodup
 |[],_=>by simp[sm,jm]|p::m,h=>by
  have b:p.1∉jm m/\(jm m).Nodup:=St.1 h;unfold sm
  by_cases a:p.1=k
  ·rw[cK a];subst a;exact h
  ·rw[cI a];refine St.2 ⟨λhm=>?_,vC k v m b.2⟩;rcases(xf k v m p.1).1 hm with e|e
   ·exact a e
   ·exact b.1 e
def AK{α:Type}(k:Int)(v:α):∀(m:List (Int×α)),(sm m k v).length<=m.length+1
 |[]=>by simp[sm]|p::m=>by
  unfold sm
  split
  ·simp
  ·have:=AK k v m;simp only[hW];omega
def FA(n:Int):∀l:List Int,(El n l).length=l.length+1
 |[]=>rfl|a::l=>by
  unfold El
  split
  ·rfl
  ·simp[FA n l]
def B9:∀(l acc:List Int),(yN acc l).length=acc.length+l.length
 |[],acc=>by simp[yN]|a::l,acc=>by rw[yN,B9 l,FA];simp only[hW];omega
def BB:∀(n:Nat) (t:Tm) (d:Int) (m:List (Int×Bool)),t.agl<=n->t.agl<=100000000->0<=d->d+t.agl<=1000000000->t.agp 4611686018427387904=true->(jm m).Nodup->∃q,pQ n t d m=some q/\(jm q).Nodup/\q.length<=m.length+t.agl/\∀x,x∈jm q↔x∈jm m\/(0<=x/\0<t.agr (x+d)):=by
 intro n
 induction n with
 |zero=>intro t d m h;have:=t.db;omega
 |succ n J=>
  intro t d m hn w K L C hm;cases t with
  |mk k i s l=>
   have D:=h9 k;rw[Tm.cJ] at hn w L;have hlen:=eG Tm.agl l λt _=>t.db;rw[Tm.dI,ez,kn,iC] at C
   have agk:∀(F:Int->Tm->List (Int×Bool)->Option (eu (List (Int×Bool)) (List (Int×Bool)))),(∀j x v,F j x v=cG (lb (Tm.mk k i s l)) λb=>cG (pQ n x (dR .i64 d b) v) λr=>some (.next r))->∀(as:List Tm) (j:Nat) (v:List (Int×Bool)),(∀a∈as,a∈l)->(jm v).Nodup->∃e,dP F as j v=some (.inl e)/\(jm e).Nodup/\e.length<=v.length+cU Tm.agl as/\∀x,x∈jm e↔x∈jm v\/(0<=x/\0<cU (Tm.agr (x+d+d_ k)) as):=by
    intro F hF as
    induction as with
    |nil=>intro j v _ y;exact⟨v,rfl,y,by simp[cU],λx=>by simp[cU]⟩|cons a as z=>
     intro j v has y;have E:=has a aaB;have M:=c6 Tm.agl E;have A:=C.2 a E;obtain⟨v1,f,g,G,o⟩:=J a (d+d_ k) v VW VW VW VW A y;obtain⟨v2,g1,g2,g3,g4⟩:=z (j+1) v1 (λb w=>has b (by simp[w])) g;refine⟨v2,?_,g2,by simp only[cU];omega,λx=>?_⟩
     ·rw[dq,hF,j1];simp only[cv,Tm.da];rw[ds VW VW,f];simp only[cv,dr];exact g1
     ·rw[g4,o];simp only[cU];rw[<-Int.add_assoc];constructor
      ·rintro((h|h)|h)
       ·exact .inl h
       ·exact .inr ⟨h.1,VW⟩
       ·exact .inr ⟨h.1,VW⟩
      ·rintro(h|⟨h,u⟩)
       ·exact .inl (.inl h)
       ·by_cases N:0<a.agr (x+d+d_ k)
        ·exact .inl (.inr ⟨h,N⟩)
        ·exact .inr ⟨h,VW⟩
   unfold pQ;simp only[cN,Tm.cZ,cT (l:=l) VW,cL,Tm.da,Tm.dW];rw[Tm.cJ]
   by_cases p:k=1/\d<=i
   ·have c:eH (dm k 1) (rZ i d) false=true:=by simp[eH,p.1,p.2]
    simp only[c,if_true];rw[dF VW VW];obtain⟨e,f,g,G,o⟩:=agk _ (λ_ _ _=>rfl) l 0 (sm m (i-d) true) (λa h=>h) (vC _ _ _ hm);refine⟨e,by rw[f];rfl,g,by have:=AK (i-d) true m;omega,λx=>?_⟩;rw[o,xf,Tm.ej];constructor
    ·rintro((h|h)|h)
     ·exact .inr ⟨VW,by rw[cK ⟨p.1,VW⟩];omega⟩
     ·exact .inl h
     ·exact .inr ⟨h.1,VW⟩
    ·rintro(h|⟨h,u⟩)
     ·exact .inl (.inr h)
     ·by_cases H:x=i-d
      ·exact .inl (.inl H)
      ·rw[cI (λI=>H VW)] at u;exact .inr ⟨h,VW⟩
   ·have c:eH (dm k 1) (rZ i d) false=false:=by
     unfold eH
     split
     ·rename_i O
      have B:k=1:=by simpa using O
      simp only[rZ,UU]
      exactλh=>p ⟨B,h⟩
     ·rfl
    simp only[c,lU,jC];obtain⟨e,f,g,G,o⟩:=agk _ (λ_ _ _=>rfl) l 0 m (λa h=>h) hm;refine⟨e,by rw[f];rfl,g,VW,λx=>?_⟩;rw[o,Tm.ej];constructor
    ·rintro(h|h)
     ·exact .inl h
     ·exact .inr ⟨h.1,VW⟩
    ·rintro(h|⟨h,u⟩)
     ·exact .inl h
     ·rw[cI (λI=>p ⟨I.1,VW⟩)] at u;exact .inr ⟨h,VW⟩
def Bp{t:Tm}(hw:t.wt<=1000000000)(d:t.agp 4611686018427387904=true)(he:t.err=0):∃l,vD t=some (l,0)/\FI l/\l.length<=4096/\∀x,x∈l↔0<=x/\0<t.agr x:=by
 have hn:t.agl<=4096:=by
  unfold Tm.err at he
  split at he
  ·split at he
   ·cases he
   ·omega
  ·cases he
 obtain⟨m,e,c,f,g⟩:=BB FU t 0 [] (by rw[dp];omega) VW VW VW d (by simp[jm])
 have a:(m.map (·.1)).Nodup:=c
 have b:m.length<=4096:=by simpa using CJ f (by simpa using hn)
 refine⟨yN [] (jm m),?_,zI _ [] .nil c aaB,?_,λx=>?_⟩
 ·unfold vD;rw[iY hw,he];simp only[cv];rw[cI aaa,e];simp only[cv];unfold qn
  rw[cT VW,cL,show v8 (m.map (·.1))=true from by simp[v8,a],cL]
  rfl
 ·rw[B9];simp[jm,b]
 ·rw[zJ,g];simp[jm]
def zg{n:Int}(a:0<=n)(b:n<4294967296):IntKind.u32.wrap n=n:=by
 unfold IntKind.wrap;simp only[show IntKind.u32.bits=32 from rfl,show IntKind.u32.signed=false from rfl,UJ,lU,jC,show((2:Int)^32)=4294967296 from rfl];omega
def DR(a:Nat):BitVec.ofInt 32 (a:Int)=BitVec.ofNat 32 a:=aaB
def Dx{a b:Nat}(d:a<4294967296)(e:b<4294967296):vT .u32 (a:Int) (b:Int)=((a|||b:Nat):Int):=by
 unfold vT;have c:a|||b<2^32:=Vs VW VW;rw[show IntKind.u32.bits=32 from rfl,DR,DR,BitVec.toNat_or,Sf,Sf,Qp VW,Qp VW];exact zg VW VW
def E6{a b:Nat}(d:a<4294967296)(e:b<4294967296):pS .u32 (a:Int) (b:Int)=((a&&&b:Nat):Int):=by
 unfold pS;have c:a&&&b<2^32:=ab8 _ VW;rw[show IntKind.u32.bits=32 from rfl,DR,DR,abG,Sf,Sf,Qp VW,Qp VW];exact zg VW VW
def MS{k:Nat}(b:k<32):TP .u32 1 (k:Int)=((2^k:Nat):Int):=by
 unfold TP;rw[show IntKind.u32.bits=32 from rfl,yz,Ts VW,Int.one_mul];have a:2^k<2^32:=Rz aaa b;rw[show((2:Int)^k)=((2^k:Nat):Int) by push_cast;rfl];exact zg (W2 _) (Int.ofNat_lt.2 (Yc a rfl))
def MK{a k:Nat}(b:k<=32):T' .u32 (a:Int) (k:Int)=((a/2^k:Nat):Int):=by
 unfold T';rw[show IntKind.u32.bits=32 from rfl,yz,Ts b];rw[show((2:Int)^k)=((2^k:Nat):Int) by push_cast;rfl];rw[adF _ (W2 _)];rfl
structure Us (l:List Int) (m:Nat):Prop where
 lt:m<4294967296
 pos:∀x∈l,0<=x
 X7:FI l
 mem:∀i:Nat,(i:Int)∈l↔m.testBit i=true
def Us.nil:Us [] 0:=⟨aaa,aaB,by first|exact .nil|trivial|simp[FI],aaB⟩
def xM{i b:Int}{m:Nat}(hm:m<4294967296)(g:0<=i)(l:i<=1000000000000)(o:0<=b)(p:b<=1000000000)(q:i-b<32):∃c:Nat,lY i b (m:Int)=some (c:Int)/\c<4294967296/\∀j:Nat,c.testBit j=true↔m.testBit j=true\/i=j+b:=by
 unfold lY
 by_cases h:b<=i
 ·rw[cK (by rw[fC];exact h),dF VW VW,show HN (i-b)=true by simp[HN];omega,cL];obtain⟨k,f⟩:∃k:Nat,i-b=(k:Int):=⟨(i-b).toNat,VW⟩
  have a:k<32:=VW
  have d:2^k<4294967296:=Yc (Rz aaa a) rfl;rw[f,MS a,Dx hm d];refine⟨m|||2^k,rfl,Vs (n:=32) VW VW,λj=>?_⟩;rw[U8,nA,QZ,Ja];constructor
  ·rintro(h|h)
   ·exact .inl h
   ·exact .inr VW
  ·rintro(h|h)
   ·exact .inl h
   ·exact .inr VW
 ·rw[cI (by rw[fC];exact h)];exact⟨m,rfl,hm,λj=>⟨.inl,λe=>e.elim id λe=>absurd e VW⟩⟩
def AP:∀(n:Nat) (t:Tm) (b:Int) (m:Nat),t.agl<=n->t.agl<=1000000->t.ok=true->t.agp 1000000000000=true->0<=b->b+t.agl<=1000000000->m<4294967296->(∀j:Int,32<=j->t.agr (j+b)=0)->∃g:Nat,gn n t b (λ(s:Int) (o:Int) (p:Int)=>lY o p s) (m:Int)=some (g:Int)/\g<4294967296/\∀j:Nat,g.testBit j=true↔m.testBit j=true\/0<t.agr (j+b):=by
 intro n
 induction n with
 |zero=>intro t b m h;have:=t.db;omega
 |succ n L=>
  intro t b m hn M N r O w hm c;cases t with
  |mk k i s l=>
   rw[Tm.cJ] at hn M w;have hlen:=Tm.dK l;have hi:=Tm.ib N;rw[Tm.dI,ez,Ja,iC] at r;have P:=h9 k;rw[gn];simp only[cN]
   have x:∀j:Int,32<=j->∀t∈l,t.agr (j+(b+d_ k))=0:=by
    intro j y t Q;have z:=c j y;rw[Tm.ej] at z;have V:=c6 (Tm.agr (j+b+d_ k)) Q;rw[show j+(b+d_ k)=j+b+d_ k by omega];omega
   have loop:∀(ts:List Tm) (j:Nat) (v:Nat),(∀t∈ts,t∈l)->v<4294967296->∃A:Nat,dP (λ(R:Int) (B:Tm)=>(λ(v28:Int)=>
      cG (gn n B (b+d_ k) (λ(s:Int) (o:Int) (p:Int)=>lY o p s) v28) λC=>
      some ((.next C):eu Int Int))) ts j (v:Int)=some (.inl (A:Int))/\A<4294967296/\∀q:Nat,A.testBit q=true↔v.testBit q=true\/0<cU (Tm.agr (q+b+d_ k)) ts:=by
    intro ts
    induction ts with
    |nil=>intro j v _ D;exact⟨v,aaB,D,λq=>by simp[cU]⟩|cons t ts E=>
     intro j v d D;have a:=d t aaB;have S:=c6 Tm.agl a;obtain⟨v1,F,G,H⟩:=L t (b+d_ k) v VW VW (hi.2.2.2.1 t a) (r.2 t a) VW VW D (λj y=>x j y t a);obtain⟨v2,f1,f2,f3⟩:=E (j+1) v1 (λu hu=>d u (by simp[hu])) G;refine⟨v2,?_,f2,λq=>?_⟩
     ·rw[dq,F];simp only[cv,dr];exact f1
     ·rw[f3,H];simp only[cU];rw[show(q:Int)+(b+d_ k)=q+b+d_ k by omega];constructor
      ·rintro((h|h)|h)
       ·exact .inl h
       ·exact .inr VW
       ·exact .inr VW
      ·rintro(h|h)
       ·exact .inl (.inl h)
       ·by_cases T:0<t.agr (q+b+d_ k)
        ·exact .inl (.inr T)
        ·exact .inr VW
   by_cases I:k=1
   ·subst I;rw[cK (show dm (Tm.mk 1 i s l).agj 1=true from rfl)];simp only[Tm.cZ,Tm.da,Tm.dW]
    have J:i-b<32:=by
     rcases Int.lt_or_le (i-b) 32 with h|h
     ·exact h
     ·have z:=c (i-b) h;rw[Tm.ej,cK ⟨rfl,VW⟩] at z;omega
    obtain⟨U,F,G,H⟩:=xM hm hi.2.1 r.1 O VW J;rw[F,cv,rl 1 b VW VW,cT VW,cL];obtain⟨K,f1,f2,f3⟩:=loop l 0 U (λt h=>h) G;refine⟨K,?_,f2,λq=>?_⟩
    ·have e:=f1;rw[show((0:Nat))=0 from rfl] at e;rw[e,cv];rfl
    ·rw[f3,H,Tm.ej]
     by_cases f:i=q+b
     ·rw[cK ⟨rfl,f⟩];exact⟨λ_=>.inr VW,λ_=>.inl (.inr f)⟩
     ·rw[cI (λh=>f h.2),tG];exact⟨λh=>h.elim (λh=>h.elim .inl λh=>absurd h f) .inr,λh=>h.elim (λh=>.inl (.inl h)) .inr⟩
   ·rw[cI (show¬dm (Tm.mk k i s l).agj 1=true by simpa[dm] using I)];simp only[Tm.cZ,Tm.da,Tm.dW];rw[rl k b VW VW,cT VW,cL];obtain⟨K,f1,f2,f3⟩:=loop l 0 m (λt h=>h) hm;refine⟨K,by rw[f1,cv];rfl,f2,λq=>?_⟩;rw[f3,Tm.ej,cI (λh=>I h.1),tG]
def Qi{t:Tm}(he:t.err=0)(b:t.agp 1000000000000=true)(c:∀j:Int,32<=j->t.agr j=0):∃(l:List Int) (m:Nat),iP t=some (m:Int)/\jr t=some l/\Us l m/\∀x,x∈l↔0<=x/\0<t.agr x:=by
 obtain⟨a,hn⟩:=Tm.eJ he;have hw:=t.gm a;obtain⟨m,d,e,f⟩:=AP FU t 0 0 (by have:=dp;omega) VW a b VW VW aaa (λj g=>by rw[td];exact c j g);obtain⟨l,g1,g2,_,g4⟩:=Bp (t:=t) VW (Tm.iM t VW b) he;refine⟨l,m,?_,by unfold jr;rw[g1];rfl,⟨e,λx h=>((g4 x).1 h).1,g2,λi=>?_⟩,g4⟩
 ·unfold iP pq;rw[show(0:Int)=((0:Nat):Int)from rfl] at*;rw[d];rfl
 ·rw[g4,f,td];simp
def nD(v:List (Int×Bool))(l:List Int):List (Int×Bool):=l.foldl (λv x=>sm v x true) v
def sh:∀(l:List Int) (v:List (Int×Bool)),(jm v).Nodup->(jm (nD v l)).Nodup/\(nD v l).length<=v.length+l.length/\∀x,x∈jm (nD v l)↔x∈jm v\/x∈l
 |[],v,h=>⟨h,by simp[nD],λx=>by simp[nD]⟩|y::l,v,h=>by
  obtain⟨a,c,b⟩:=sh l (sm v y true) (vC y true v h);refine⟨a,?_,λx=>?_⟩
  ·have:=AK y true v;show(nD (sm v y true) l).length<=_;rw[hW];omega
  ·show x∈jm (nD (sm v y true) l)↔_;rw[b,xf,iL];constructor
   ·rintro((h|h)|h)
    ·exact .inr (.inl h)
    ·exact .inl h
    ·exact .inr (.inr h)
   ·rintro(h|h|h)
    ·exact .inl (.inr h)
    ·exact .inl (.inl h)
    ·exact .inr h
def Ar{ρ:Type}:∀(l:List Int) (j:Nat) (v:List (Int×Bool)),dP (λ(c:Int) (a:Int)=>(λ(b:(List (Int×Bool)))=>some ((.next (sm b a true)):eu (List (Int×Bool)) ρ))) l j v=some (.inl (nD v l))
 |[],j,v=>by rw[lT];rfl|x::l,j,v=>by
  rw[dq];simp only[cv,dr];exact Ar l (j+1) (sm v x true)
def A0{a b:List Int}(f:a.length<=1000000)(g:b.length<=1000000):∃l,eY a b=some l/\FI l/\∀x,x∈l↔x∈a\/x∈b:=by
 obtain⟨c,d,e⟩:=sh a [] (by simp[jm]);obtain⟨g1,g2,g3⟩:=sh b (nD [] a) c;refine⟨yN [] (jm (nD (nD [] a) b)),?_,zI _ _ .nil g1 aaB,λx=>?_⟩
 ·unfold eY;simp only[cN];rw[cT VW,cL];rw[Ar a 0 [],cv,cS,cT VW,cL,Ar b 0 _,cv,cS];unfold qn;simp only[tY] at d;rw[cT VW,cL,show v8 (List.map (λx=>x.1) (nD (nD [] a) b))=true from qk g1,cL];rfl
 ·rw[zJ,g3,e];simp[jm]
def Us.union{a b:List Int}{m n:Nat}(c:Us a m)(d:Us b n)(e:a.length<=1000000)(f:b.length<=1000000):∃l,eY a b=some l/\vT .u32 (m:Int) (n:Int)=((m|||n:Nat):Int)/\Us l (m|||n)/\∀x,x∈l↔x∈a\/x∈b:=by
 obtain⟨l,j,k,g⟩:=A0 e f;refine⟨l,j,Dx c.lt d.lt,⟨Vs (n:=32) (by have:=c.lt;omega) (by have:=d.lt;omega),λx o=>?_,k,λi=>?_⟩,g⟩
 ·rcases(g x).1 o with h|h
  ·exact c.pos x h
  ·exact d.pos x h
 ·rw[g,c.mem,d.mem,U8,nA]
def Us.bound{l:List Int}{m:Nat}(h:Us l m):∀x∈l,x<32:=by
 intro x a;have b:=h.pos x a;obtain⟨k,rfl⟩:=U9 b;have:=(h.mem k).1 a;rcases tv k 32 with h1|h1
 ·omega
 ·exfalso;have c:m<2^k:=Th h.lt (CJ (by decide:4294967296<=2^32) (aeP aaa h1));rw[adA c] at this;cases this
def rM(k:Int)(l:List Int):List Int:=(l.filter λx=>decide (k<=x)).map λx=>x-k
def Au{k:Int}(e:0<=k)(c:k<=1000):∀(l:List Int) (j:Nat) (v:List Int),(∀x∈l,0<=x/\x<32)->v.length+l.length<=1000000->dP (λ(f:Int) (a:Int)=>(λ(b:List Int)=>
   if(rZ a k) then(
   fY (eM b [(ea .i64 a k)])<|some ((.next (eV b [(ea .i64 a k)])):eu (List Int) (List Int)))
   else(some (.next b)))) l j v=some (.inl (v++rM k l))
 |[],j,v,_,_=>by simp[rM]|x::l,j,v,h,g=>by
  simp only[hW] at g;have i:=h x aaB;rw[dq]
  by_cases d:k<=x
  ·rw[cK (by rw[fC];exact d),dt aaP,cL,dF VW VW];simp only[cv,dr];rw[eb,Au e c l (j+1) _ (λy hy=>h y (by simp[hy])) aaP];simp[rM,d]
  ·rw[cI (by rw[fC];exact d)];simp only[cv,dr];rw[Au e c l (j+1) v (λy hy=>h y (by simp[hy])) VW];simp[rM,d]
def xW{l:List Int}{m:Nat}(h:Us l m)(d:l.length<=1000000){k:Int}(c:0<=k)(a:k<=1000):eR l k=some (rM k l):=by
 unfold eR;simp only[cN];rw[cT VW,cL,Au c a l 0 [] (λx b=>⟨h.pos x b,h.bound x b⟩) aaP,cv,cS,kW]
def z8(k:Int)(l:List Int)(x:Int):x∈rM k l↔x+k∈l/\0<=x:=by
 unfold rM;simp only[nU,Pk,Ja];constructor
 ·rintro⟨y,⟨a,b⟩,rfl⟩;exact⟨by rw[adx];exact a,VW⟩
 ·rintro⟨a,b⟩;exact⟨x+k,⟨a,VW⟩,VW⟩
def Ex(k:Int):∀{l:List Int},FI l->FI (rM k l)
 |[],_=>.nil|a::l,.cons f g=>by
  have c:=Ex k g
  by_cases d:k<=a
  ·have e:rM k (a::l)=(a-k)::rM k l:=by simp[rM,d]
   rw[e];refine .cons (λb h=>?_) c;have:=f _ ((z8 k l b).1 h).1;omega
  ·have e:rM k (a::l)=rM k l:=by simp[rM,d]
   rw[e];exact c
def Us.out{l:List Int}{m:Nat}(h:Us l m)(a:l.length<=1000000){k:Nat}(b:k<=32):eR l (k:Int)=some (rM k l)/\dS (m:Int) (k:Int)=some ((m/2^k:Nat):Int)/\Us (rM k l) (m/2^k):=by
 refine⟨xW h a VW VW,?_,⟨YU (Nat.div_le_self _ _) h.lt,λx c=>((z8 _ _ _).1 c).2,Ex _ h.X7,λi=>?_⟩⟩
 ·unfold dS;rw[show HN (k:Int)=true by simp[HN],cL,MK b]
 ·rw[z8,show(i:Int)+(k:Int)=((i+k:Nat):Int) by omega,h.mem]
  have e:(m/2^k).testBit i=m.testBit (i+k):=by rw[aeL]
  rw[e];exact⟨λh=>h.1,λh=>⟨h,VW⟩⟩
def Tm.up_add(f b c:Int)(j:0<=b):∀(t:Tm) (d:Int),(t.up (f+d) b).up (f+d) c=t.up (f+d) (b+c):=by
 intro t
 induction t using Tm.ind with
 |h k i s l e=>
  intro d;rw[Tm.ir,Tm.ir,Tm.ir]
  congr 1
  ·by_cases a:k=1/\f+d<=i
   ·rw[cK a,cK ⟨a.1,VW⟩];omega
   ·rw[cI a,cI a,cI a]
  ·rw[Q6]
   exact tg λx g=>by
    have:=e x g (d+d_ k);rw[show f+(d+d_ k)=f+d+d_ k by omega] at this;exact this
def Fm.up_add(f b c:Int)(a:0<=b):∀(t:Fm) (d:Int),(t.up (f+d) b).up (f+d) c=t.up (f+d) (b+c):=by
 intro t
 induction t using Fm.ind with
 |h k s ts l e=>
  intro d;rw[Fm.ir,Fm.ir,Fm.ir]
  congr 1
  ·rw[Q6];exact tg λx _=>Tm.up_add f b c a x d
  ·rw[Q6]
   exact tg λx g=>by
    have:=e x g (d+qB k);rw[show f+(d+qB k)=f+d+qB k by omega] at this;exact this
def Fm.TN(t:Fm){b c:Int}(a:0<=b):(t.up 0 b).up 0 c=t.up 0 (b+c):=by
 have:=Fm.up_add 0 b c a t 0
 rwa [td] at this
def Fm.Ew(t:Fm):∀f,t.up f 0=t:=by
 induction t using Fm.ind with
 |h k s ts l a=>
  intro f;rw[Fm.ir]
  congr 1
  ·rw[tg (g:=id) λx _=>Tm.sj x _];simp
  ·rw[tg (g:=id) λx b=>a x b _];simp
def Fm.sj(t:Fm):t.up 0 0=t:=Fm.Ew t 0
structure Hy (f:Fm):Prop where
 err:f.err=0
 agp:f.agp 536870912=true
structure Qn (p:cQ) (c:cW):Prop where
 agn:p.agn=c.agn.map nI
 vars:p.eB.vars=(c.agn.length:Int)
 agq:p.eB.agq=(c.agq.length:Int)
 ctx:gA c.agn
 nv:c.agn.length<=16
 nh:c.agq.length<=16
 known:p.known.length=c.agq.length
 hyp:∀(i:Nat) (x:c_) (h:Fm),p.known[i]?=some x->c.agq[i]?=some h->Hy x.cR/\0<=x.vars/\x.vars<=c.agn.length/\h=x.cR.up 0 (c.agn.length-x.vars)
def Qn.with{p:cQ}{c:cW}(h:Qn p c){f:Fm}(m:Hy f)(hn:c.agq.length+1<=16):∃j d,ep p f=some j/\eT c f=some d/\Qn j d/\d.lemmas=c.lemmas/\d.agn=c.agn/\d.agq=c.agq++[f]:=by
 unfold ep eT;have k:=h.known;rw[dt aaP,cL,dt aaP,cL];refine⟨_,_,rfl,rfl,⟨h.agn,h.vars,?_,h.ctx,h.nv,?_,?_,?_⟩,rfl,rfl,by simp only[eb]⟩
 ·show dR .i64 p.eB.agq 1=_;rw[h.agq,ds (by have:=h.nh;omega) (by have:=h.nh;omega),eb];simp
 ·show(eV c.agq [f]).length<=16;rw[eb];simpa using hn
 ·show(eV p.known _).length=(eV c.agq [f]).length;simp[eb,k]
 ·intro i x g b a
  have b:(p.known++[c_.mk f p.eB.vars])[i]?=some x:=by rw[<-eb];exact b
  have a:(c.agq++[f])[i]?=some g:=by rw[<-eb];exact a
  rcases tv i c.agq.length with e|hge
  ·rw[s_ VW] at b;rw[s_ e] at a;exact h.hyp i x g b a
  ·have hi:i=c.agq.length:=by
    have:=(qb.1 a).1;simp at this;omega
   subst hi;rw[xj VW,k,Tj] at b;rw[xj VW,Tj] at a;have n:c_.mk f p.eB.vars=x:=gB b;have o:f=g:=gB a;subst n;subst o;have l:=h.vars;refine⟨m,by show 0<=p.eB.vars;omega,by show p.eB.vars<=_;exact Int.le_of_eq l,?_⟩;show f=f.up 0 (c.agn.length-p.eB.vars);rw[l,X9];exact(Fm.sj f).symm
def gA.append{g l:List Ty}(h:gA g)(a:gA l):gA (g++l):=λs hs=>(rS.1 hs).elim (h s) (a s)
def xV{g l:List Ty}(a:gA l)(b:g.length+l.length<=900000):eZ (g.map nI) l=some ((g++l).map nI):=by
 unfold eZ;rw[pK a VW,cv,dt aaP,cL,eb,V1]
def Qn.below{p:cQ}{c:cW}(h:Qn p c){l:List Ty}(k:gA l)(hn:c.agn.length+l.length<=16)(n:∀f∈c.agq,f.err=0/\f.agp 1000000000=true):∃m b,ee p l=some m/\dV c l=some b/\Qn m b/\b.lemmas=c.lemmas/\b.agn=c.agn++l/\b.agq=c.agq.map (Fm.up 0 l.length):=by
 have o:=h.nh
 have q:ee p l=some (cQ.mk (ef.mk (p.eB.vars+l.length) p.eB.agq) ((c.agn++l).map nI) p.known):=by
  unfold ee;rw[h.agn,xV k VW,cv];have:=h.vars;rw[dz,ds VW VW]
 have r:dV c l=some (cW.mk c.lemmas (c.agn++l) (c.agq.map (Fm.up 0 l.length))):=by
  unfold dV;simp only[cN]
  rw[dt VW,cL,cT VW,cL,fy (Fm.up 0 l.length) c.agq 0 [] aaP (λj x v s t=>by
   obtain⟨q1,u⟩:=n x s;obtain⟨w,y⟩:=Fm.eJ q1
   rw[dz,nd FU x 0 l.length (by rw[dp];omega) VW VW VW VW VW (Fm.iM x VW u),cv,dt (by simpa using t),cL,eb])]
  rw[cv,cS,eb,kW]
 refine⟨_,_,q,r,⟨rfl,?_,?_,h.ctx.append k,?_,?_,?_,?_⟩,rfl,rfl,rfl⟩
 ·show p.eB.vars+l.length=((c.agn++l).length:Int);rw[h.vars];simp
 ·show p.eB.agq=((c.agq.map (Fm.up 0 l.length)).length:Int);rw[h.agq];simp
 ·show(c.agn++l).length<=16;simpa using hn
 ·show(c.agq.map (Fm.up 0 l.length)).length<=16;simpa using h.nh
 ·show p.known.length=(c.agq.map (Fm.up 0 l.length)).length;simpa using h.known
 ·intro i x g d a;have d:p.known[i]?=some x:=d;have a:(c.agq.map (Fm.up 0 l.length))[i]?=some g:=a;rw[xr] at a;cases e:c.agq[i]?with
  |none=>rw[e] at a;cases a
  |some g0=>
   rw[e] at a;have a:g0.up 0 l.length=g:=gB a;obtain⟨a1,a2,a3,a4⟩:=h.hyp i x g0 d e;refine⟨a1,a2,?_,?_⟩
   ·show x.vars<=((c.agn++l).length:Int);simp;omega
   ·show g=x.cR.up 0 (((c.agn++l).length:Int)-x.vars);rw[<-a,a4,Fm.TN _ VW]
    congr 1
    simp;omega
def Qn.Hb{p:cQ}{c:cW}(h:Qn p c){i:Int}(hi:0<=i):if(c.agq.length:Int)<=i then j5 p i=some (.mk 0 (.mk 0 []) [] [],false)else∃f,df c.agq (ea .i64 (ea .i64 (dn c.agq) 1) i)=some f/\j5 p i=some (f,true):=by
 have g:=h.nh;have j:=h.known;unfold j5;rw[dz,j]
 split
 ·rename_i d;rw[cK (by rw[fC];exact d)]
 ·rename_i d;rw[cI (by rw[fC];exact d),dz,dF (a:=(c.agq.length:Int)) VW VW,dF VW VW]
  have b:(((c.agq.length:Int)-1-i).toNat)<c.agq.length:=VW
  have e:(c.agq.length:Int)-1-i=((((c.agq.length:Int)-1-i).toNat:Nat):Int):=VW
  rw[e,e_,e_,nw b,nw VW];obtain⟨a1,a2,a3,a4⟩:=h.hyp _ _ _ (nw VW) (nw b);refine⟨_,rfl,?_⟩;obtain⟨k,m⟩:=Fm.eJ a1.err;have l:=h.nv;rw[cv,h.vars,dF VW VW,lJ k VW (Fm.iM _ VW a1.agp) VW VW VW VW,cv,<-a4]
def QB{t:Tm}(m:t.ok=true):vt t=some t.root:=by
 unfold vt;simp only[cN];cases t with
 |mk k i s l=>
  show(if(dm k 3) then(cG (df l 0) λg=>some (dm g.agj 2))else(
   if(dm k 6) then(cG (df l 2) λe=>if(dm e.agj 4) then some true else some (dm e.agj 5))else(
   if(dm k 9) then(cG (df l 2) λf=>if(dm f.agj 7) then some true else some (dm f.agj 8))else(
   if(eH (dm k 11) true (dm k 12)) then(cG (df l 0) λh=>some (dm h.agj 10))else some false))))=_
  unfold Tm.root
  by_cases n:k=3
  ·subst n;obtain⟨a,b,rfl⟩:=Tm.ok3 m;rw[cK aaa];simp[dg,Tm.kd,oU]
  ·rw[cI (by simpa using n)]
   by_cases o:k=6
   ·subst o;obtain⟨a,b,c,rfl⟩:=Tm.ok6 m;rw[cK aaa];simp only[fU,jF,gd,cv,Tm.kd,dO]
    by_cases j:c.agj=4
    ·simp[j]
    ·simp[j,oU]<;>exact HT.2 Iff.rfl
   ·rw[cI (by simpa using o)]
    by_cases p:k=9
    ·subst p;obtain⟨a,b,c,rfl⟩:=Tm.ok9 m;rw[cK aaa];simp only[fU,jF,gd,cv,Tm.kd,dO]
     by_cases j:c.agj=7
     ·simp[j]
     ·simp[j,oU]<;>exact HT.2 Iff.rfl
    ·rw[cI (by simpa using p)]
     by_cases d:k=11\/k=12
     ·obtain⟨a,rfl⟩:=Tm.T8 d m;rw[cK (by rcases d with rfl|rfl<;>rfl)];simp only[dg,gd,cv,Tm.kd];rcases d with rfl|rfl<;>simp[oU]<;>exact HT.2 Iff.rfl
     ·rw[cI (by simp only[ja,nA,dO];exact d)];simp only[not_or] at d;simp[n,o,p,d.1,d.2]
def ta{t:Tm}(h:t.agl<=1000000000):fx FU t=some (t.agl:Int):=j_ FU t (by rw[dp];exact h) h
def JG{t:Tm}(o:t.ok=true)(hn:t.agl<=8192)(f:t.root=true):sb t=some ((t.dX.agl:Int)-(t.agl:Int)):=by
 have j:=Tm.Cn o f;have p:=hn;unfold sb;rw[ta VW];simp only[cv];cases j with
 |app=>
  rename_i i s c d b a;have l:=Tm.xC (Tm.xC o (.mk 2 c d [b]) aaB) b aaB;rw[Tm.cJ] at hn;simp only[cU,Tm.cJ] at hn;rw[cK aa7];simp only[Tm.cZ,dg,ed,gd,jF,cv];rw[ta (t:=b) VW,ta (t:=a) VW,ua FU b 0 (by rw[dp];omega) VW VW VW];simp only[cv];have q:=Tm.fD b 0;have hmul:b.agr 0*a.agl<=8192*8192:=DC VW VW;have r:=Tm.mi a b 0 l;have u:=a.db
  have e:(Tm.mk 3 i s [.mk 2 c d [b],a]).dX=Tm.j3 0 b a:=by simp[Tm.dX]
  rw[e]
  have hint:(b.agr 0:Int)*((a.agl:Int)-1)=((b.agr 0*a.agl:Nat):Int)-(b.agr 0:Int):=by rw[R5,QP];simp
  rw[dF (a:=(a.agl:Int)) VW VW,ux (by rw[hint];omega) (by rw[hint];omega),hint,ds VW VW,dF VW VW]
  congr 1
  omega
 |proj m=>
  rename_i k i s c d a b;rw[Tm.cJ] at hn;simp only[cU,Tm.cJ] at hn;rcases m with rfl|rfl
  ·rw[cI aaB,cI aaB,cI aaB,cK aa7];simp only[Tm.cZ,dg,ed,gd,jF,cv];rw[ta (t:=a) VW];simp only[cv];rw[dF VW VW];simp[Tm.dX]
  ·rw[cI aaB,cI aaB,cI aaB,cI aaB];simp only[Tm.cZ,dg,ed,gd,jF,cv];rw[ta (t:=b) VW];simp only[cv];rw[dF VW VW];simp[Tm.dX]
 |zero m=>
  rename_i k v i s c d b st;rw[Tm.cJ] at hn;simp only[cU,Tm.cJ] at hn
  have g:k≠3/\k≠11/\k≠12:=VW
  have:(Tm.mk k i s [b,st,.mk v c d []]).dX=b:=by simp[Tm.dX,g.1,g.2.1,g.2.2]
  rw[this];rcases m with⟨rfl,rfl⟩|⟨rfl,rfl⟩
  ·rw[cI aaB,cK aa7];simp only[Tm.cZ,dg,ed,fU,gd,jF,cv];rw[cK aa7,ta (t:=b) VW];simp only[cv];rw[dF VW VW]
  ·rw[cI aaB,cI aaB,cK aa7];simp only[Tm.cZ,dg,ed,fU,gd,jF,cv];rw[cK aa7,ta (t:=b) VW];simp only[cv];rw[dF VW VW]
 |succ=>
  rename_i i s c d b st n
  have e:(Tm.mk 6 i s [b,st,.mk 5 c d [n]]).dX=i_ st [n,.mk 6 i s [b,st,n]]:=by simp[Tm.dX,i_]
  rw[e,ku];rw[Tm.cJ] at hn|-;simp only[cU,Tm.cJ,hW,tY] at hn|-;rw[cI aaB,cK aa7];simp only[Tm.cZ,dg,ed,fU,gd,jF,cv];rw[cI aaB,ta (t:=st) VW,ta (t:=n) VW];simp only[cv];rw[ds (a:=2) VW VW,ds (b:=(n.agl:Int)) VW VW,ds VW VW,dF (b:=1) VW VW,dF VW VW]
  congr 1
  omega
 |cons=>
  rename_i i s c d b st h n
  have e:(Tm.mk 9 i s [b,st,.mk 8 c d [h,n]]).dX=i_ st [h,n,.mk 9 i s [b,st,n]]:=by simp[Tm.dX,i_]
  rw[e,ku];rw[Tm.cJ] at hn|-;simp only[cU,Tm.cJ,hW,tY] at hn|-;rw[cI aaB,cI aaB,cK aa7];simp only[Tm.cZ,dg,ed,fU,gd,jF,cv];rw[cI aaB,ta (t:=st) VW,ta (t:=h) VW,ta (t:=n) VW];simp only[cv];rw[ds (a:=3) VW VW,ds (b:=(h.agl:Int)) VW VW,ds (b:=(n.agl:Int)) VW VW,ds VW VW,dF (b:=1) VW VW,dF (b:=(h.agl:Int)) VW VW,dF VW VW]
  congr 1
  omega
def Hj{M:Int}(o:0<=M/\M<=1000000000000){t:Tm}(hs:Sm M t)(hn:t.agl<=8192)(c:t.root=true):q9 t=some t.dX:=by
 have j:=hs.ok;have l:=Tm.Cn j c;have hw:=Tm.gm t j;unfold q9;cases l with
 |app=>
  rename_i i s e f b a;have d:=(hs.arg (.mk 2 e f [b]) aaB).arg b aaB;have g:=hs.arg a aaB;have p:=d.agl;have q:=g.agl;rw[cK aa7];simp only[Tm.cZ,dg,ed,gd,jF,cv];rw[yv FU b 0 0 a (by rw[dp];omega) VW VW VW VW (d.mono o.2).agp d.ok VW (g.mono o.2).agp];simp[Tm.dX]
 |proj m=>
  rename_i k i s e f a b;rcases m with rfl|rfl
  ·rw[cI aaB,cI aaB,cI aaB,cK aa7];simp[Tm.dX,dg]
  ·rw[cI aaB,cI aaB,cI aaB,cI aaB];simp[Tm.dX,dg,ed]
 |zero m=>
  rename_i k r i s e f b st;rcases m with⟨rfl,rfl⟩|⟨rfl,rfl⟩
  ·rw[cI aaB,cK aa7];simp[Tm.dX,dg,fU,dm]
  ·rw[cI aaB,cI aaB,cK aa7];simp[Tm.dX,dg,fU,dm]
 |succ=>
  rename_i i s e f b st n;have hi:i=0:=(Tm.ib j).2.2.1 aaa;subst hi;rw[Tm.dC] at hw;simp only[cU,Tm.dC] at hw;rw[cI aaB,cK aa7];simp only[Tm.cZ,dg,ed,fU,gd,jF,cv,Tm.dv];rw[cI aaB,ov VW VW];simp only[cv];rw[wR VW VW VW VW];simp only[cv];rw[k_ _ _ (by simp only[cU,Tm.dC,Ty.z,Ty.cJ];omega)];simp[Tm.dX,i_,Ty.z]
 |cons=>
  rename_i i s e f b st h n;have hi:i=0:=(Tm.ib j).2.2.1 aaa;subst hi;rw[Tm.dC] at hw;simp only[cU,Tm.dC] at hw;rw[cI aaB,cI aaB,cK aa7];simp only[Tm.cZ,dg,ed,fU,gd,jF,cv,Tm.dv];rw[cI aaB,ov VW VW];simp only[cv];rw[k_ _ _ (by simp only[cU,Tm.dC,Ty.z,Ty.cJ];omega)];simp only[cv];rw[wR VW VW VW VW];simp only[cv];rw[k_ _ _ (by simp only[cU,Tm.dC,Ty.z,Ty.cJ];omega)];simp[Tm.dX,i_,Ty.z]
def Tn(t:Tm)(o:Option (Option Tm))(r:Tm×Bool×Bool):Prop:=
 match o with
 |none=>r.2.1=true/\r.2.2=false|some none=>r=(t,false,true)|some (some a)=>r=(a,true,true)
def HS{M:Int}(C:0<=M/\M<=1000000000000)(room:Int):∀(n:Nat) (t:Tm),t.agl<=n->Sm M t->t.agl<=8192->∃r,nC n t room=some r/\Tn t (t.BW room) r
 |0,t,hn,_,_=>by have:=t.db;omega
 |n+1,.mk k i s l,hn,hs,B=>by
  rw[nC,QB hs.ok];simp only[cv];rw[Tm.vJ]
  by_cases p:(Tm.mk k i s l).root=true
  ·rw[cK p,cK p,JG hs.ok B p];simp only[cv,ei]
   by_cases hg:((Tm.mk k i s l).dX.agl:Int)-((Tm.mk k i s l).agl:Int)>room
   ·rw[cK hg,cK hg];exact⟨_,rfl,rfl,rfl⟩
   ·rw[cI hg,cI hg,Hj C hs B p];exact⟨_,rfl,rfl⟩
  ·rw[cI p,cI p];rw[Tm.cJ] at hn B;have hlen:=Tm.Wc hs.ok;simp only[Tm.cZ,cN,cT (l:=l) VW,cL,Tm.da,Tm.dW,Tm.dv]
   have key:∀(ts pre:List Tm),l=pre++ts->∃o,dP (λ(a:Int) (v:Tm)=>(λ(_:Unit)=>
     hB (nC n v room) λw x y=>
     if x then(
     fY (wx l)<|cG (df l a) λD=>
     some (eu.ret ((Tm.mk k i s (xk l a w)),true,y)))
     else(some (.next ())))) ts pre.length ()=some o/\(match Tm.np room ts with
      |none=>∃r:Tm×Bool×Bool,o=.inr r/\r.2.1=true/\r.2.2=false|some none=>o=.inl ()|some (some g)=>o=.inr (Tm.mk k i s (pre++g),true,true)):=by
    intro ts
    induction ts with
    |nil=>intro pre _;exact⟨_,rfl,by rw[Tm.np]⟩|cons t ts E=>
     intro pre z
     have h:t∈l:=by rw[z];simp
     have F:=c6 Tm.agl h;obtain⟨⟨u,b,c⟩,G,j⟩:=HS C room n t VW (hs.arg t h) VW;rw[dq];simp only[G,ij]
     have d:df l ((pre.length:Nat):Int)=some t:=by
      unfold df;rw[cK VW];rw[z];simp
     have fH:xk l ((pre.length:Nat):Int) u=pre++u::ts:=by
      unfold xk;rw[z,yz,zZ]
     have f:wx l=true:=by
      unfold wx NS;have:0<l.length:=aeu h;exact qk VW
     rw[Tm.np];unfold Tn at j;cases e:t.BW room with
     |none=>
      rw[e] at j;obtain⟨q1,A⟩:=j;simp only at q1 A;rw[cK q1,f,cL,d];exact⟨_,rfl,_,rfl,rfl,A⟩
     |some o=>
      cases o with
      |none=>
       rw[e] at j;obtain⟨rfl,q⟩:=gE j;obtain⟨rfl,rfl⟩:=gE q;rw[cI aaa];simp only[cv,dr];obtain⟨o,o1,o2⟩:=E (pre++[u]) (by rw[z];simp);rw[qI] at o1;refine⟨o,o1,?_⟩;cases m:Tm.np room ts with
       |none=>rw[m] at o2;exact o2
       |some q=>
        cases q with
        |none=>rw[m] at o2;exact o2
        |some g=>rw[m] at o2;simpa using o2
      |some H=>
       rw[e] at j;obtain⟨rfl,q⟩:=gE j;obtain⟨rfl,rfl⟩:=gE q;rw[cK rfl,f,cL,d];simp only[cv,fH];exact⟨_,rfl,rfl⟩
   obtain⟨o,o1,o2⟩:=key l [] rfl;rw[show(([]:List Tm).length)=0 from rfl] at o1;rw[o1];cases m:Tm.np room l with
   |none=>
    rw[m] at o2;obtain⟨r,rfl,q1,A⟩:=o2;exact⟨r,rfl,q1,A⟩
   |some q=>
    cases q with
    |none=>rw[m] at o2;subst o2;exact⟨_,rfl,rfl⟩
    |some g=>rw[m] at o2;subst o2;exact⟨_,rfl,rfl⟩
def Cw{t:Tm}(h:t.err=0):t.ok=true/\t.agl<=4096:=Tm.eJ h
def wO(steps:Int)(z:0<=steps/\steps<=65536):∀(k:Nat) (m:Int) (t:Tm) (N:Nat),(k:Int)=steps-m->0<=m->Sm (536870912+8192*m) t->t.agl<=4096->k<N->jb ((Ru λ(d:Int) (f:Int) (g:Int) (i:Int) (j:List Ty) (l:List Tm)=>
   cG (fx FU (Tm.mk f g (Ty.mk i j) l)) λr=>
   hB (nC FU (Tm.mk f g (Ty.mk i j) l) (ea .i64 4096 r)) λa s v=>
   if s then(
   if(dm d steps) then(
   some (.ret ((Tm.mk 0 0 (Ty.mk 0 []) []),0,5)))
   else(if v then(
   some (.next ((dR .i64 d 1),a.agj,a.agm,a.cO.agj,a.cO.agk,a.agk)))
   else(some (.ret ((Tm.mk 0 0 (Ty.mk 0 []) []),0,4)))))
   else(cG (j8 FU (Tm.mk f g (Ty.mk i j) l)) λw=>
   some (.ret (w,d,0)))):(Int×Int×Int×Int×(List Ty)×(List Tm))->(Option (eu (Int×Int×Int×Int×(List Ty)×(List Tm)) (Tm×Int×Int)))) N (m,t.agj,t.agm,t.cO.agj,t.cO.agk,t.agk)=some (.inr (t.norm k m))
 |k,m,t,0,_,_,_,_,A=>by omega|k,m,t,N+1,C,hm,hs,hn,A=>by
  rw[gb];simp only[Aw,S5];have hw:=Tm.gm t hs.ok;rw[ta VW];simp only[cv];rw[dF VW VW];obtain⟨⟨u,b,c⟩,B,n⟩:=HS (M:=536870912+8192*m) VW (4096-t.agl) FU t (by rw[dp];omega) hs VW;rw[B];simp only[ij];unfold Tn at n;cases e:t.BW (4096-t.agl)with
  |none=>
   rw[e] at n;obtain⟨q1,y⟩:=n;simp only at q1 y;rw[cK q1];cases k with
   |zero=>
    have p:¬t.nf=true:=by
     intro h;rw[(A1 _ t).1 h] at e;cases e
    rw[cK (by simp[dm];omega),Tm.norm,cI p];rfl
   |succ k=>
    rw[cI (by simp[dm];omega),cI (by rw[y];decide),E7 e];rfl
  |some o=>
   cases o with
   |none=>
    rw[e] at n;obtain⟨rfl,q⟩:=gE n;obtain⟨rfl,rfl⟩:=gE q;rw[cI aaa,jB VW];cases k with
    |zero=>rw[Tm.norm,cK ((A1 _ _).2 e)];rfl|succ k=>rw[Cl e];rfl
   |some D=>
    rw[e] at n;obtain⟨rfl,q⟩:=gE n;obtain⟨rfl,rfl⟩:=gE q;rw[cK rfl];cases k with
    |zero=>
     have p:¬t.nf=true:=by
      intro h;rw[(A1 _ t).1 h] at e;cases e
     rw[cK (by simp[dm];omega),Tm.norm,cI p];rfl
    |succ k=>
     obtain⟨s1,s2,E⟩:=Dj (M:=536870912+8192*m) VW t hs VW _ e;rw[cI (by simp[dm];omega),cK rfl,Cv e,ds VW VW];have x:Sm (536870912+8192*(m+1)) u:=⟨s1,by rw[show 536870912+8192*(m+1)=536870912+8192*m+8192 by omega];exact s2,VW⟩;exact wO steps z k (m+1) u N VW VW x VW VW
def Cy:∀(k:Nat) (m:Int) (t p:Tm) (n e:Int),t.norm k m=(p,n,e)->e≠0->p=Tm.z
 |0,m,t,p,n,e,h,he=>by
  rw[Tm.norm] at h
  split at h
  ·obtain⟨_,h⟩:=gE h;obtain⟨_,h⟩:=gE h;exact absurd h.symm he
  ·exact(gE h).1.symm
 |k+1,m,t,p,n,e,h,he=>by
  rw[Tm.norm] at h
  split at h
  ·exact(gE h).1.symm
  ·obtain⟨_,h⟩:=gE h;obtain⟨_,h⟩:=gE h;exact absurd h.symm he
  ·exact Cy k _ _ _ _ _ h he
def tx{t:Tm}(hw:t.wt<=1000000)(steps:Int):∃p m e,jK t steps=some (p,m,e)/\lA t steps=some (p,m,e)/\p.wt<=1000000000:=by
 have i:=t.fp
 have c:Tm.z.wt<=1000000000:=aaa
 have a:=rA (t:=t) VW steps;unfold lA;rw[iY VW];simp only[cv]
 by_cases he:t.err=0
 ·obtain⟨j,hn⟩:=Cw he;rw[cK he] at a;rw[cI (by simp[dw,he])];simp only[cN,gH,ei]
  by_cases a1:steps<0
  ·rw[cI VW] at a;rw[cK a1,cK trivial];exact⟨_,_,_,a,rfl,c⟩
  ·rw[cI a1]
   by_cases a2:steps>65536
   ·rw[cI VW] at a;rw[cK a2,cK trivial];exact⟨_,_,_,a,rfl,c⟩
   ·rw[cI a2,tM FU t 536870912 (by rw[dp];omega) VW];simp only[cv]
    by_cases b:t.agp 536870912=true
    ·rw[cK ⟨VW,VW,b⟩] at a;have hs:Sm 536870912 t:=⟨j,b,VW⟩;rw[b,cI aaa,wO steps VW steps.toNat 0 t FU VW VW hs VW (by rw[dp];omega)];generalize d:t.norm steps.toNat 0=o at a;obtain⟨p,m,e⟩:=o;refine⟨p,m,e,a,rfl,?_⟩;have f:=Ez steps.toNat 0 t
     by_cases g:e=0
     ·subst g;obtain⟨q1,k⟩:=DS _ 536870912 _ _ _ _ VW hs hn d;have:=Tm.gm p q1.ok;omega
     ·rw[Cy _ _ _ _ _ _ d g];exact c
    ·rw[cI (λh=>b h.2.2)] at a;rw[cK (by rw[Bool.not_eq_true] at b;rw[b];rfl)];exact⟨_,_,_,a,rfl,c⟩
 ·rw[cI he] at a;rw[cK (by simp[dw,he])];exact⟨_,_,_,a,rfl,c⟩
def B2{a b:Tm}(c:a.wt<=1000000000):∃r,qL a b=some r/\iK FU a b=some r:=by
 obtain⟨r,d,e⟩:=BF (b:=b) c;obtain⟨q,q1,f⟩:=ra FU a b (by rw[dp];exact c) c
 have:r=q:=by rw[xi,e,f]
 subst this;exact⟨r,d,q1⟩
def GQ{a b:Tm}(l:a.wt<=1000000)(o:b.wt<=1000000)(steps:Int):∃c,oW a b steps=some c/\qm a b steps=some c:=by
 unfold oW qm;rw[pD VW,pD (t:=b) VW,iY VW,iY (t:=b) VW];simp only[cv]
 by_cases d:dw a.err 0=true
 ·rw[cK d,cK d];exact⟨_,rfl,rfl⟩
 ·rw[cI d,cI d]
  by_cases g:dw b.err 0=true
  ·rw[cK g,cK g];exact⟨_,rfl,rfl⟩
  ·rw[cI g,cI g];obtain⟨r,u,v⟩:=B2 (a:=a) (b:=b) VW;rw[u,v];simp only[cv]
   by_cases h:r=true
   ·rw[cK h,cK h];exact⟨_,rfl,rfl⟩
   ·rw[cI h,cI h];obtain⟨p,m,e,w,x,y⟩:=tx l steps;obtain⟨q,n,f,q1,z,A⟩:=tx o steps;rw[w,x,q1,z];simp only[ij]
    by_cases i:dw e 0=true
    ·rw[cK i,cK i];exact⟨_,rfl,rfl⟩
    ·rw[cI i,cI i]
     by_cases j:dw f 0=true
     ·rw[cK j,cK j];exact⟨_,rfl,rfl⟩
     ·rw[cI j,cI j];obtain⟨s,s1,s2⟩:=B2 (a:=p) (b:=q) y;rw[s1,s2];simp only[cv]
      by_cases k:s=true
      ·rw[cK k];exact⟨_,rfl,rfl⟩
      ·rw[cI k];exact⟨_,rfl,rfl⟩
def xN{α:Type}{E E':α->α->Option Int}{M:List α}:∀(l:List α) (i:Nat),(∀x∈l,∀y∈M,∃c,E x y=some c/\E' x y=some c)->i+l.length<=M.length->∃o,dP (λ(d:Int) (e:α)=>(λ(_:Unit)=>cG (df M d) λb=>cG (E e b) λa=>if(dw a 0) then(some (.ret a))else(some ((.next ()):eu Unit Int)))) l i ()=some o/\dP (λ(d:Int) (e:α)=>(λ(_:Unit)=>cG (df M d) λb=>cG (E' e b) λa=>if(dw a 0) then(some (.ret a))else(some ((.next ()):eu Unit Int)))) l i ()=some o
 |[],i,_,_=>⟨.inl (),aaB,aaB⟩|x::l,i,h,g=>by
  simp only[hW] at g;obtain⟨c,j,k⟩:=h x aaB M[i] (D7 VW);rw[dq,dq,e_,nw VW];simp only[cv,j,k]
  by_cases f:dw c 0=true
  ·rw[cK f];exact⟨.inr c,rfl,rfl⟩
  ·rw[cI f];simp only[cv,dr];exact xN l (i+1) (λy hy=>h y (by simp[hy])) VW
def Fm.shape{k:Int}{s f:Ty}{ts us:List Tm}{l m:List Fm}(h:(Fm.mk k s ts l).ok=true)(d:(Fm.mk k f us m).ok=true):ts.length=us.length/\l.length=m.length:=by
 rw[Fm.eD] at h d;simp only[ez] at h d;have c:=h.1.1;have a:=d.1.1;unfold Fm.node at c a
 split at c
 ·rename_i e;rw[cK e] at a;simp only[ez,kn] at c a;omega
 ·rename_i e;rw[cI e] at a
  split at c
  ·rename_i b;rw[cK b] at a;simp only[ez,kn] at c a;omega
  ·rename_i b;rw[cI b] at a;simp only[ez,kn] at c a;omega
def GZ:∀(n:Nat) (a b:Fm),a.wt<=n->a.wt<=1000000->b.wt<=1000000->a.ok=true->b.ok=true->∃c,lQ n a b=some c/\o8 n a b=some c:=by
 intro n
 induction n with
 |zero=>intro t b h;have:=t.fO;omega
 |succ n w=>
  intro a b h z g p d;cases a with
  |mk k s ts l=>
  cases b with
  |mk k' A us m=>
   rw[Fm.dC] at h z g;have D:=Fm.jc l;have B:=Tm.jc ts;rw[lQ,o8];simp only[Fm.cZ,Fm.da,Fm.eN,Fm.dv,cN,cT (l:=l) VW,cT (l:=ts) VW,cL,cV]
   by_cases e:k≠k'
   ·rw[cK e,cK e];exact⟨11,rfl,rfl⟩
   ·rw[cI e,cI e,mK VW,fv VW];simp only[cv];have i:k=k':=uC.1 e;subst i;obtain⟨s1,s2⟩:=Fm.shape p d;obtain⟨_,F,ol⟩:=Fm.mY p;obtain⟨_,C,j⟩:=Fm.mY d;cases s.jO A with
    |false=>exact⟨11,rfl,rfl⟩|true=>
     obtain⟨o,q,k2⟩:=xN (E:=λx y=>oW x y 1000) (E':=λx y=>qm x y 1000) (M:=us) ts 0 (λx f y hy=>GQ (by have:=c6 Tm.wt f;omega) (by have:=c6 Tm.wt hy;omega) 1000) VW;simp only[cV] at q k2;rw[cI aaa,cI aaa,q,k2];cases o with
     |inr r=>exact⟨r,rfl,rfl⟩|inl u=>
      simp only[cv,cS];obtain⟨o,q1,v⟩:=xN (E:=λx y=>lQ n x y) (E':=λx y=>o8 n x y) (M:=m) l 0 (λx f y hy=>w x y (by have:=c6 Fm.wt f;omega) (by have:=c6 Fm.wt f;omega) (by have:=c6 Fm.wt hy;omega) (ol x f) (j y hy)) VW;simp only[cV] at q1 v;rw[q1,v];cases o with
      |inr r=>exact⟨r,rfl,rfl⟩|inl u=>exact⟨0,rfl,rfl⟩
def vA{a b:Fm}(f:a.wt<=1000000000)(g:b.wt<=1000000000):∃c,kb a b=some c/\ni a b=some c:=by
 unfold kb ni;rw[fQ f,fQ g,g_ f,g_ g];simp only[cv,cV]
 by_cases d:a.err≠0
 ·rw[cK d,cK d];exact⟨_,rfl,rfl⟩
 ·rw[cI d,cI d]
  by_cases e:b.err≠0
  ·rw[cK e,cK e];exact⟨_,rfl,rfl⟩
  ·rw[cI e,cI e];obtain⟨o1,n1⟩:=Fm.eJ (uC.1 d);obtain⟨o2,n2⟩:=Fm.eJ (uC.1 e);have j:=a.gm o1;have k:=b.gm o2;obtain⟨c,h,i⟩:=GZ FU a b (by rw[dp];omega) VW VW o1 o2;rw[h,i];exact⟨c,rfl,rfl⟩
def E2{g:List Ty}{x:Tm}{t:Ty}(h:du g x t)(hg:gA g)(a:g.length+x.agl<=1000000):x.ty g=(t,0):=by
 have b:=(Mt h hg).2 x.agl (ig _) a;rw[t_ x.agl x (ig _) h.ok g hg a] at b;exact gB b
def EI{g:List Ty}{x:Tm}(c:x.ok=true)(hg:gA g)(h:kO x g 1=0):du g x .nat:=by
 unfold kO at h
 split at h
 ·cases h
 ·rename_i d
  have e:(x.ty g).1.agj=1:=by
   rcases Int.emod_two_eq (x.ty g).1.agj with _|_<;>
   ·by_cases a:(x.ty g).1.agj=1
    ·exact a
    ·exact absurd ⟨h,a⟩ d
  obtain⟨b,f⟩:=lX _ x (ig _) c g hg _ (sF h);rw[(pZ f).1 e] at b;exact b
def Dp{g:List Ty}{x:Tm}(h:du g x .nat)(hg:gA g)(a:g.length+x.agl<=1000000):kO x g 1=0:=by
 unfold kO;rw[E2 h hg a];exact cI (λh=>h.2 rfl)
def nS(f:Fm)(o:f.ok=true):∀g,gA g->f.qd g=0->hD g f:=by
 refine Fm.kC (p:=λf=>∀g,gA g->f.qd g=0->hD g f) ?_ ?_ ?_ f o
 ·intro a b j n g hg h;rw[Fm.oL] at h
  by_cases c:kO a g 1=0
  ·by_cases e:kO b g 1=0
   ·exact .eq (EI j hg c) (EI n hg e)
   ·simp[eC,c,e] at h
  ·simp[eC,c] at h
 ·intro k a b i j n d l g hg h
  have m:gy k=false:=by rcases i with rfl|rfl<;>rfl
  rw[Fm.oL,m] at h;simp only[Em,eC,y5,if_true,lU,jC] at h
  by_cases c:a.qd g=0
  ·rw[cK c] at h
   by_cases e:b.qd g=0
   ·exact .two i (d g hg c) (l g hg e)
   ·rw[cI e] at h;exact absurd h e
  ·rw[cI c] at h;exact absurd h c
 ·intro k s a i hs j d g hg h
  have m:gy k=true:=by rcases i with rfl|rfl|rfl|rfl<;>rfl
  rw[Fm.oL,m] at h;simp only[Em,eC,y5,if_true] at h
  by_cases c:a.qd (g++[s])=0
  ·exact .q i hs (d _ (hg.app hs) c)
  ·rw[cI c] at h;exact absurd h c
def DJ{g:List Ty}{f:Fm}(h:hD g f):gA g->g.length+f.agl<=1000000->f.qd g=0:=by
 induction h with
 |eq l m=>
  intro hg c;rw[Fm.cJ] at c;simp only[cU] at c;rw[Fm.oL];simp[eC,Dp l hg VW,Dp m hg VW]
 |two d _ _ e i=>
  intro hg c;rw[Fm.cJ] at c;simp only[cU] at c;rename_i k a b _ _
  have j:gy k=false:=by rcases d with rfl|rfl<;>rfl
  rw[Fm.oL,j];simp[eC,e hg VW,i hg VW]
 |q d hs _ n=>
  intro hg c;rw[Fm.cJ] at c;simp only[cU] at c;rename_i k s a _
  have j:gy k=true:=by rcases d with rfl|rfl|rfl|rfl<;>rfl
  rw[Fm.oL,j];simp[eC,n (hg.app hs) aaP]
def hD.up{g:List Ty}{f:Fm}(h:hD g f):∀g1 g2 e:List Ty,g=g1++g2->hD (g1++e++g2) (f.up g2.length e.length):=by
 induction h with
 |eq l m=>
  intro g1 g2 e hg;rw[Fm.ir];exact .eq (l.up g1 g2 e hg) (m.up g1 g2 e hg)
 |two c _ _ d i=>
  intro g1 g2 e hg;rename_i k a b _ _
  have j:qB k=0:=by rcases c with rfl|rfl<;>rfl
  rw[Fm.ir,j,td];exact .two c (d g1 g2 e hg) (i g1 g2 e hg)
 |q c hs _ n=>
  intro g1 g2 e hg;rename_i k s a _
  have j:qB k=1:=by rcases c with rfl|rfl|rfl|rfl<;>rfl
  subst hg;have:=n g1 (g2++[s]) e (by rw[ry]);rw[Fm.ir,j];rw[qI,<-ry] at this;exact .q c hs this
def hD.lift{g:List Ty}{f:Fm}(h:hD g f)(e:List Ty):hD (g++e) (f.up 0 e.length):=by
 have:=h.up g [] e aaB;simpa using this
theorem hD.j3{g:List Ty}{f:Fm}(h:hD g f):∀(g1:List Ty) (s:Ty) (g2:List Ty) (a:Tm),g=g1++[s]++g2->du g1 a s->hD (g1++g2) (Fm.j3 g2.length f a):=by
 induction h with
 |eq j l=>
  intro g1 s g2 a hg b;rw[Fm.ka];exact .eq (j.j3 g1 s g2 a hg b) (l.j3 g1 s g2 a hg b)
 |two c _ _ d e=>
  intro g1 s g2 a hg b;rename_i k x y _ _
  have i:qB k=0:=by rcases c with rfl|rfl<;>rfl
  rw[Fm.ka,i,td];exact .two c (d g1 s g2 a hg b) (e g1 s g2 a hg b)
 |q c hs _ m=>
  intro g1 s g2 a hg b;rename_i k n x _
  have i:qB k=1:=by rcases c with rfl|rfl|rfl|rfl<;>rfl
  subst hg;have:=m g1 s (g2++[n]) a aaB b;rw[Fm.ka,i];rw[qI,<-ry] at this;exact .q c hs this
def hD.put{g:List Ty}{s:Ty}{f:Fm}(h:hD (g++[s]) f){a:Tm}(b:du g a s):hD g (Fm.j3 0 f a):=by
 have:=h.j3 g s [] a aaB b;simpa using this
def du.front{g:List Ty}{x:Tm}{t:Ty}(h:du g x t)(e:List Ty):du (e++g) x t:=by
 induction h with
 |@var g t i c j=>
  refine .var i aaP ?_;rw[xj aaP,<-j]
  congr 1
  simp;omega
 |lam c _ d=>exact .lam c (by rw[ry];exact d)|app _ _ a b=>exact .app a b|zero=>exact .zero|succ _ d=>exact .succ d|oS c _ _ _ a b f=>exact .oS c a b f|nil=>exact .nil|cons _ _ a b=>exact .cons a b|fold c _ _ _ a b f=>exact .fold c a b f|pair c _ _ a b=>exact .pair c a b|fst _ d=>exact .fst d|snd _ d=>exact .snd d|unit=>exact .unit
def hD.front{g:List Ty}{f:Fm}(h:hD g f)(e:List Ty):hD (e++g) f:=by
 induction h with
 |eq d i=>exact .eq (d.front e) (i.front e)|two a _ _ b c=>exact .two a b c|q a hs _ j=>exact .q a hs (by rw[ry];exact j)
structure Hg (g:List Ty) (f:Fm):Prop where
 err:f.err=0
 ty:hD g f
def Hg.agl{g:List Ty}{f:Fm}(h:Hg g f):f.agl<=4096:=(Fm.eJ h.err).2
def Hg.ok{g:List Ty}{f:Fm}(h:Hg g f):f.ok=true:=(Fm.eJ h.err).1
def Hg.agp{g:List Ty}{f:Fm}(h:Hg g f)(hg:g.length<=16){m:Int}(hm:5000<=m):f.agp m=true:=h.ty.agp m (by have:=h.agl;omega)
def Hg.hy{g:List Ty}{f:Fm}(h:Hg g f)(hg:g.length<=16):Hy f:=⟨h.err,h.agp hg VW⟩
def Hg.up{g:List Ty}{f:Fm}(h:Hg g f)(l:List Ty):Hg (g++l) (f.up 0 l.length):=by
 have hn:=Fm.lO f 0 l.length;obtain⟨a,b⟩:=Fm.eJ h.err;refine⟨?_,h.ty.lift l⟩;unfold Fm.err;rw[Fm.Cb f 0 l.length VW VW,a,cK rfl,hn,cI VW]
structure PG (L:List Fm) (p:cQ) (c:cW):Prop where
 pl:Qn p c
 F8:c.lemmas=L
 Sx:∀f∈L,Hg [] f
 agq:∀f∈c.agq,Hg c.agn f
def PG.NJ{L:List Fm}{p:cQ}{c:cW}(h:PG L p c){l:List Ty}(j:gA l)(hn:c.agn.length+l.length<=16):∃d a,ee p l=some d/\dV c l=some a/\PG L d a/\a.agn=c.agn++l/\a.agq=c.agq.map (Fm.up 0 l.length):=by
 obtain⟨d,a,k,m,n,o,g,i⟩:=h.pl.below j hn (λf b=>⟨(h.agq f b).err,(h.agq f b).agp h.pl.nv VW⟩);refine⟨d,a,k,m,⟨n,o.trans h.F8,h.Sx,λf b=>?_⟩,g,i⟩;rw[i] at b;obtain⟨f0,e,rfl⟩:=nU.1 b;rw[g];exact(h.agq f0 e).up l
def PG.below{L:List Fm}{p:cQ}{c:cW}(h:PG L p c){s:Ty}(hs:s.err=0)(hn:c.agn.length+1<=16):∃b a,ee p [s]=some b/\dV c [s]=some a/\PG L b a/\a.agn=c.agn++[s]/\a.agq=c.agq.map (Fm.up 0 1):=
 h.NJ (l:=[s]) (λx d=>by rw[uR.1 d];exact hs) hn
def PG.with{L:List Fm}{p:cQ}{c:cW}(h:PG L p c){f:Fm}(d:Hg c.agn f)(hn:c.agq.length+1<=16):∃b a,ep p f=some b/\eT c f=some a/\PG L b a/\a.agn=c.agn/\a.agq=c.agq++[f]:=by
 obtain⟨b,a,i,j,k,l,e,g⟩:=h.pl.with (d.hy h.pl.nv) hn;refine⟨b,a,i,j,⟨k,l.trans h.F8,h.Sx,λx hx=>?_⟩,e,g⟩;rw[g] at hx;rw[e];rcases rS.1 hx with hx|hx
 ·exact h.agq x hx
 ·rw[uR.1 hx];exact d
def PG.room{L:List Fm}{p:cQ}{c:cW}(h:PG L p c){v k:Nat}(e:v<=100)(f:k<=100):(dk p.eB v k=some 0/\di c v k=some 0/\c.agn.length+v<=16/\c.agq.length+k<=16)\/(dk p.eB v k=some 3/\di c v k=some 3/\(16<c.agn.length+v\/16<c.agq.length+k)):=by
 unfold dk di;have b:=h.pl.vars;have d:=h.pl.agq;have g:=h.pl.nv;have i:=h.pl.nh;rw[b,d,dz,dz,ds VW VW,ds VW VW,ja]
 by_cases a:(nW ((c.agn.length:Int)+v) 16||nW ((c.agq.length:Int)+k) 16)=true
 ·rw[cK a];simp only[nA,ei] at a;exact .inr ⟨rfl,rfl,VW⟩
 ·rw[cI a];simp only[nA,ei,not_or] at a;exact .inl ⟨rfl,rfl,VW,VW⟩
def FI.len{N:Int}:∀{l:List Int} {lo:Int},FI l->(∀x∈l,lo<=x/\x<N)->(l.length:Int)<=max 0 (N-lo)
 |[],lo,_,_=>by simp;omega|a::l,lo,.cons c d,h=>by
  have e:=h a aaB;have f:=FI.len (lo:=a+1) d (λx b=>⟨by have:=c x b;omega,(h x (by simp[b])).2⟩);simp only[hW];omega
def Us.len{l:List Int}{m:Nat}(h:Us l m):l.length<=32:=by
 have:=FI.len (N:=32) (lo:=0) h.X7 (λx a=>⟨h.pos x a,h.bound x a⟩);omega
def du.HG{g:List Ty}{x:Tm}{t:Ty}(h:du g x t):∀j:Int,(g.length:Int)<=j->x.agr j=0:=by
 induction h with
 |@var g t i k l=>
  intro j a;rw[Tm.ej,cI (λh=>by have:=h.2;omega)];rfl
 |@lam g s b t k _ e=>
  intro j a;rw[Tm.ej,cI (λh=>by cases h.1)];simp only[cU];rw[e (j+d_ 2) (by show _<=j+1;simp;omega)]
 |app _ _ c d=>intro j a;rw[Tm.ej,cI (λh=>by cases h.1)];simp only[cU,show d_ 3=0 from rfl,td,c j a,d j a]
 |zero=>intro j a;rw[Tm.ej,cI (λh=>by cases h.1)];rfl
 |succ _ e=>intro j a;rw[Tm.ej,cI (λh=>by cases h.1)];simp only[cU,show d_ 5=0 from rfl,td,e j a]
 |oS k _ _ _ c d f=>intro j a;rw[Tm.ej,cI (λh=>by cases h.1)];simp only[cU,show d_ 6=0 from rfl,td,c j a,d j a,f j a]
 |nil=>intro j a;rw[Tm.ej,cI (λh=>by cases h.1)];rfl
 |cons _ _ c d=>intro j a;rw[Tm.ej,cI (λh=>by cases h.1)];simp only[cU,show d_ 8=0 from rfl,td,c j a,d j a]
 |fold k _ _ _ c d f=>intro j a;rw[Tm.ej,cI (λh=>by cases h.1)];simp only[cU,show d_ 9=0 from rfl,td,c j a,d j a,f j a]
 |pair k _ _ c d=>intro j a;rw[Tm.ej,cI (λh=>by cases h.1)];simp only[cU,show d_ 10=0 from rfl,td,c j a,d j a]
 |fst _ e=>intro j a;rw[Tm.ej,cI (λh=>by cases h.1)];simp only[cU,show d_ 11=0 from rfl,td,e j a]
 |snd _ e=>intro j a;rw[Tm.ej,cI (λh=>by cases h.1)];simp only[cU,show d_ 12=0 from rfl,td,e j a]
 |unit=>intro j a;rw[Tm.ej,cI (λh=>by cases h.1)];rfl
def eL:Fm:=.mk 0 (.mk 0 []) [] []
def Di(k:Option (cM×Int)):Option (cM×Int):=
 cX k λa b=>
 if(dw b 0) then(
 some ((cM.mk (Fm.mk 0 (Ty.mk 0 []) [] []) 0),b))
 else(cG (jL a.cR) λd=>
 if(dw d 0) then(
 some ((cM.mk (Fm.mk 0 (Ty.mk 0 []) [] []) 0),4))
 else(dj (λ(v30:Int)=>
 some ((cM.mk a.cR v30),0)) λc=>
 cX (n_ a.cR) λe f=>
 if e then(
 c a.eX)
 else(c 0)))
def Df(r:Option (Fm×List Int×Int)):Option (ur×Int):=
 hB r λb g f=>
 if(dw f 0) then(
 some ((ur.mk (Fm.mk 0 (Ty.mk 0 []) [] []) []),f))
 else(cG (kg b) λc=>
 if(dw c 0) then(
 some ((ur.mk (Fm.mk 0 (Ty.mk 0 []) [] []) []),4))
 else(dj (λ(d:List Int)=>
 some ((ur.mk b d),0)) λa=>
 cX (n7 b) λe h=>
 if e then(
 a g)
 else(a [])))
def xc{α:Type}{F:Int->α->Unit->Option (eu Unit Bool)}(w:α->Nat):∀(l:List α) (i:Nat),(∀j x,x∈l->F j x ()=if 0<w x then some (.ret true)else some (.next ()))->dP F l i ()=some (if 0<cU w l then .inr true else .inl ())
 |[],i,_=>rfl|x::l,i,h=>by
  have c:=xc w l (i+1) (λj y hy=>h j y (by simp[hy]));rw[dq,h i x aaB]
  by_cases a:0<w x
  ·rw[cK a,cK (show 0<cU w (x::l) by simp only[cU];omega)];rfl
  ·rw[cI a];show dP F l (i+1) ()=_;rw[c]
   by_cases b:0<cU w l
   ·rw[cK b,cK (show 0<cU w (x::l) by simp only[cU];omega)]
   ·rw[cI b,cI (show¬0<cU w (x::l) by simp only[cU];omega)]
def Db:∀(n:Nat) (t:Tm) (a:Int),t.agl<=n->t.agl<=1000000000->0<=a->a+t.agl<=10000000000->vY n t a=some (decide (0<t.agr a)):=by
 intro n
 induction n with
 |zero=>intro t a h;have:=t.db;omega
 |succ n f=>
  intro t a h d o e;cases t with
  |mk k i s l=>
   rw[Tm.cJ] at h d e;have p:=Tm.dK l;have q:=h9 k;rw[vY,Tm.ej];simp only[Tm.cZ,Tm.dW,Tm.da,cN,kS,ez,dO]
   by_cases c:k=1/\i=a
   ·rw[cK c,cK c]
    congr 1
    exact(qk VW).symm
   ·rw[cI c,cI c,cT VW,cL,xc (Tm.agr (a+d_ k)) l 0 (λj x g=>by
     have m:=c6 Tm.agl g;rw[j1,cv,Tm.da,ds VW VW,f x (a+d_ k) VW VW VW VW,cv]
     by_cases b:0<x.agr (a+d_ k)
     ·rw[cK b,cK (qk b)]
     ·rw[cI b,cI (by simpa using b)]),cv,tG]
    by_cases b:0<cU (Tm.agr (a+d_ k)) l
    ·rw[cK b,mV,qk b]
    ·rw[cI b,cS,zu b]
def wu:∀(n:Nat) (t:Fm) (a:Int),t.agl<=n->t.agl<=1000000000->0<=a->a+t.agl<=10000000000->py n t a=some (decide (0<t.agr a)):=by
 intro n
 induction n with
 |zero=>intro t a h;have:=t.db;omega
 |succ n i=>
  intro t a h c o d;cases t with
  |mk k s ts l=>
   rw[Fm.cJ] at h c d;have p:=Fm.dK l;have m:=Tm.dK ts;have q:=wG k;rw[py,Fm.ej];simp only[Fm.cZ,Fm.eN,cN]
   rw[cT VW,cL,xc (Tm.agr a) ts 0 (λj x e=>by
    have f:=c6 Tm.agl e;rw[Db FU x a (by rw[dp];omega) VW VW VW,cv]
    by_cases b:0<x.agr a
    ·rw[cK b,cK (qk b)]
    ·rw[cI b,cI (by simpa using b)]),cv]
   by_cases g:0<cU (Tm.agr a) ts
   ·rw[cK g,mV,qk VW]
   ·rw[cI g,cS,cT VW,cL,xc (Fm.agr (a+qB k)) l 0 (λj x e=>by
     have f:=c6 Fm.agl e;rw[k6,cv,Fm.da,ds VW VW,i x (a+qB k) VW VW VW VW,cv]
     by_cases b:0<x.agr (a+qB k)
     ·rw[cK b,cK (qk b)]
     ·rw[cI b,cI (by simpa using b)]),cv]
    by_cases b:0<cU (Fm.agr (a+qB k)) l
    ·rw[cK b,mV,qk VW]
    ·rw[cI b,cS,zu VW]
def Tm.xg(s:Tm):∀(t:Tm) (n:Int),t.ok=true->t.agr n=0->Tm.j3 n t s=t.up (n+1) (-1):=by
 intro t
 induction t using Tm.ind with
 |h k i ty l g=>
  intro n d e;have hi:=Tm.ib d;rw[Tm.ej] at e;rw[Tm.ka,Tm.ir]
  by_cases a:k=1
  ·subst a;obtain⟨rfl,rfl⟩:=Tm.Mh d
   have b:i≠n:=λh=>by rw[cK ⟨rfl,h⟩] at e;omega
   rw[cK rfl];unfold Tm.pC;rw[cI b]
   by_cases f:n<i
   ·rw[cK f,cK ⟨rfl,VW⟩];rfl
   ·rw[cI f,cI (λh=>by omega)];rfl
  ·rw[cI a,cI (λh=>a h.1)]
   congr 1
   refine tg λx c=>?_;have:=c6 (Tm.agr (n+d_ k)) c;rw[g x c (n+d_ k) (hi.2.2.2.1 x c) VW,show n+d_ k+1=n+1+d_ k by omega]
def Fm.xg(s:Tm):∀(t:Fm) (n:Int),t.ok=true->t.agr n=0->Fm.j3 n t s=t.up (n+1) (-1):=by
 intro t
 induction t using Fm.ind with
 |h k ty ts l b=>
  intro n c d;obtain⟨_,e,f⟩:=Fm.mY c;rw[Fm.ej] at d;rw[Fm.ka,Fm.ir]
  congr 1
  ·refine tg λx a=>?_;have:=c6 (Tm.agr n) a;exact Tm.xg s x n (e x a) VW
  ·refine tg λx a=>?_;have:=c6 (Fm.agr (n+qB k)) a;rw[b x a (n+qB k) (f x a) VW,show n+qB k+1=n+1+qB k by omega]
def Dl:∀(n:Nat) (t:Tm) (f:Int),t.agl<=n->t.agl<=1000000000->0<=f->f+t.agl<=10000000000->t.agp 1000000000000=true->qH n t f (-1)=some (t.up f (-1)):=by
 intro n
 induction n with
 |zero=>intro t f h;have:=t.db;omega
 |succ n o=>
  intro t f h a u b hi;cases t with
  |mk k i s l=>
   rw[Tm.cJ] at h a b;rw[Tm.dI] at hi;simp only[ez,kn,iC] at hi;have w:=Tm.dK l;have y:=h9 k;rw[qH];simp only[Tm.cZ,Tm.dW,Tm.da,Tm.dv,cN,cT (l:=l) VW,cL];rw[fy (Tm.up (f+d_ k) (-1)) l 0 [] aaP]
   ·rw[Tm.ir];simp only[cv,cS,kW,wh,Tm.mk.injEq,TC,Hc]
    by_cases c:k=1/\f<=i
    ·obtain⟨rfl,d⟩:=c;rw[ds VW VW];have p:dm 1 1=true:=rfl
     have q:rZ i f=true:=by simp[d]
     simp[p,q,d]
    ·rw[cI c]
     have e:eH (dm k 1) (rZ i f) false=false:=by
      rw[kS,H5];simp only[ne_eq,ez,dO,fC];exact c
     rw[e];rfl
   ·intro j x v g r;have:=c6 Tm.agl g;rw[j1];simp only[cv,Tm.da];rw[ds VW VW,o x (f+d_ k) VW VW VW VW (hi.2 x g)];simp[dt (l:=v) (m:=[x.up (f+d_ k) (-1)]) (by simpa using r)]
def wz:∀(n:Nat) (t:Fm) (f:Int),t.agl<=n->t.agl<=1000000000->0<=f->f+t.agl<=10000000000->t.agp 1000000000000=true->fq n t f (-1)=some (t.up f (-1)):=by
 intro n
 induction n with
 |zero=>intro t f h;have:=t.db;omega
 |succ n e=>
  intro t f h b g c hi;cases t with
  |mk k s ts l=>
   rw[Fm.cJ] at h b c;rw[Fm.dI] at hi;simp only[ez,iC] at hi;have o:=Fm.dK l;have i:=Tm.dK ts;have p:=wG k;rw[fq];simp only[Fm.cZ,Fm.eN,Fm.da,Fm.dv,cN,cT (l:=l) VW,cT (l:=ts) VW,cL];rw[fy (Tm.up f (-1)) ts 0 [] aaP]
   ·simp only[cv,cS];rw[fy (Fm.up (f+qB k) (-1)) l 0 [] aaP]
    ·simp[Fm.ir]
    ·intro j x v a d;have:=c6 Fm.agl a;rw[k6];simp only[cv,Fm.da];rw[ds VW VW,e x (f+qB k) VW VW VW VW (hi.2 x a)];simp[dt (l:=v) (m:=[x.up (f+qB k) (-1)]) (by simpa using d)]
   ·intro j x v a d;have:=c6 Tm.agl a;rw[Dl FU x f (by rw[dp];omega) VW g VW (hi.1 x a)];simp[dt (l:=v) (m:=[x.up f (-1)]) (by simpa using d)]
def Jn:AL Tm.z:=by
 show AL (Tm.mk 0 0 (Ty.mk 0 []) []);intro c b d;have a:FU=999999999+1:=dp;unfold qg n5;rw[a,fA,cI (show¬(dm (Tm.mk 0 0 (Ty.mk 0 []) []).agj 1=true) by decide)];simp only[Tm.da,Tm.dv,Tm.cZ,Tm.dW,cN];rw[kF aaa,cv,cT aaa,cL];rfl
def ow{f:Fm}(a:f.ok=true)(hn:f.agl<=50000000)(b:f.agp 1000000000000=true)(c:f.agr 0=0):kB f 0 (Tm.mk 0 0 (Ty.mk 0 []) [])=some (f.up 1 (-1)):=by
 rw[show Tm.mk 0 0 (Ty.mk 0 []) []=Tm.z from rfl,pI a hn b Jn VW VW,Fm.xg _ f 0 a c];rfl
noncomputable def wH (x:Tm) (e:Int):Tm×Int:=if e=0 then((x.norm 1000 0).1,(x.norm 1000 0).2.2)else(x,e)
def lv{α:Type}(f:α->Int->α×Int):List α->Int->List α×Int
 |[],e=>([],e)|x::l,e=>((f x e).1::(lv f l (f x e).2).1,(lv f l (f x e).2).2)
mutual
noncomputable def Fm.rP:Fm->Int->Fm×Int
 |.mk k s ts l,e=>(.mk k s (lv wH ts e).1 (Fm.Gz l (lv wH ts e).2).1,(Fm.Gz l (lv wH ts e).2).2)
noncomputable def Fm.Gz:List Fm->Int->List Fm×Int
 |[],e=>([],e)|f::l,e=>((f.rP e).1::(Fm.Gz l (f.rP e).2).1,(Fm.Gz l (f.rP e).2).2)
end
def Fm.IH:∀(l:List Fm) (e:Int),Fm.Gz l e=lv Fm.rP l e
 |[],e=>by rw[Fm.Gz,lv]|f::l,e=>by rw[Fm.Gz,lv,Fm.IH l]
def Fm.xz(k:Int)(s:Ty)(ts:List Tm)(l:List Fm)(e:Int):(Fm.mk k s ts l).rP e=(.mk k s (lv wH ts e).1 (lv Fm.rP l (lv wH ts e).2).1,(lv Fm.rP l (lv wH ts e).2).2):=by rw[Fm.rP,Fm.IH]
def pw{α:Type}{f:α->Int->α×Int}:∀(l:List α) (e:Int),(∀x∈l,∀e,e≠0->(f x e).2=e)->e≠0->(lv f l e).2=e
 |[],e,_,_=>rfl|x::l,e,h,he=>by
  have a:=h x aaB e he;simp only[lv];rw[a];exact pw l e (λy hy=>h y (by simp[hy])) he
def zT{x:Tm}{e:Int}(he:e≠0):(wH x e).2=e:=by unfold wH;rw[cI he]
def Fm.ES(f:Fm):∀e:Int,e≠0->(f.rP e).2=e:=by
 induction f using Fm.ind with
 |h k s ts l a=>
  intro e he;rw[Fm.xz];have b:=pw (f:=wH) ts e (λx _ e he=>zT he) he;simp only[];rw[b];exact pw l e a he
def xS{α ρ:Type}{E:α->Int->Option (α×Int)}{f:α->Int->α×Int}:∀(l:List α) (j:Nat) (v:List α) (e:Int),(∀x∈l,∀e,E x e=some (f x e))->v.length+l.length<=1000000000->dP (λ(k:Int) (c:α)=>(nk λ(v91:List α) (d:Int)=>
   cX (E c d) λa b=>
   fY (eM v91 [a])<|some ((.next ((eV v91 [a]),b)):eu ((List α)×Int) ρ))) l j (v,e)=some (.inl (v++(lv f l e).1,(lv f l e).2))
 |[],j,v,e,_,_=>by simp[lv]|x::l,j,v,e,h,m=>by
  simp only[hW] at m;rw[dq];simp only[nk];rw[h x aaB e];obtain⟨y,g,i⟩:∃y g,f x e=(y,g):=⟨_,_,rfl⟩;rw[i];rw[cH,dt aaP,cL];simp only[cv,dr];rw[eb];have:=xS (ρ:=ρ) l (j+1) (v++[y]) g (λz n=>h z (by simp[n])) aaP;rw[this];simp only[lv,i];simp
structure Nm (x:Tm):Prop where
 err:x.err=0
 agp:x.agp 536870912=true
def Nm.both{x:Tm}(h:Nm x):jK x 1000=some (x.norm 1000 0)/\lA x 1000=some (x.norm 1000 0):=by
 obtain⟨b,hn⟩:=Cw h.err;have hw:=x.gm b;have a:=rA (t:=x) VW 1000;rw[cK h.err,cK ⟨VW,VW,h.agp⟩] at a;obtain⟨p,m,e,c,d,_⟩:=tx (t:=x) VW 1000;have a:jK x 1000=some (x.norm 1000 0):=a;refine⟨a,?_⟩;rw[d,<-c,a]
def uN{x:Tm}(h:Nm x)(b e:Int):iT x b e=some (wH x e):=by
 unfold iT wH
 by_cases he:e=0
 ·rw[cK he,cI (by rw[cV];simpa using he),h.both.1];rfl
 ·rw[cI he,cK (by rw[cV];exact he)]
inductive Pp:Fm->Prop
 |mk {k s ts l}:(∀x∈ts,Nm x)->(∀f∈l,Pp f)->Pp (.mk k s ts l)
def Pp.of(f:Fm):f.agl<=4096->f.ok=true->f.agp 536870912=true->Pp f:=by
 induction f using Fm.ind with
 |h k s ts l d=>
  intro hn e b;obtain⟨_,g,i⟩:=Fm.mY e;rw[Fm.cJ] at hn;rw[Fm.dI,ez,iC,iC] at b;refine .mk (λx c=>⟨?_,b.1 x c⟩) (λf a=>?_)
  ·have:=c6 Tm.agl c;unfold Tm.err;rw[cK (g x c),cI VW]
  ·have:=c6 Fm.agl a;exact d f a VW (i f a) (b.2 f a)
def Fl:∀(n:Nat) (f:Fm) (b e:Int),f.agl<=n->f.agl<=1000000->f.ok=true->Pp f->dM n f b (λ(s:Int) (c:Tm) (d:Int)=>iT c d s) e=some (f.rP e):=by
 intro n
 induction n with
 |zero=>intro f b e h;have:=f.db;omega
 |succ n m=>
  intro f b e hn o p hm;cases f with
  |mk k s ts l=>
   cases hm with
   |mk q r=>
    rw[Fm.cJ] at hn o;have u:=eG Tm.agl ts λt _=>t.db;have v:=eG Fm.agl l λt _=>t.db;obtain⟨w,z,g⟩:=Fm.mY p;rw[dM,Fm.xz];simp only[Fm.dv,Fm.cZ,Fm.da,Fm.eN,cN];rw[kF VW,cv,cT VW,cL];rw[xS (E:=λy s=>iT y b s) (f:=wH) ts 0 [] e (λx a e=>uN (q x a) b e) aaP,cv];simp only[cS,nk,kW];rw[jf,cv]
    have loop:=λi=>xS (ρ:=Fm×Int) (E:=λy s=>dM n y i (λ(s:Int) (c:Tm) (d:Int)=>iT c d s) s) (f:=Fm.rP) l 0 [] (lv wH ts e).2 (λx a e=>by
     have:=c6 Fm.agl a
     exact m x i e VW VW (g x a) (r x a)) aaP
    by_cases j:gy k=true
    ·rw[cK j,cT VW,cL,loop,cv];simp
    ·rw[cI j,cT VW,cL,loop,cv];simp
def za:∀(n:Nat) (f:Fm),f.agl<=n->f.agl<=1000000->Pp f->l0 n f=some (if(f.rP 0).2=0 then((f.rP 0).1,0)else(eL,(f.rP 0).2)):=by
 intro n
 induction n with
 |zero=>intro f h;have:=f.db;omega
 |succ n H=>
  intro f hn I hm;cases f with
  |mk k s ts l=>
   cases hm with
   |mk J K=>
    rw[Fm.cJ] at hn I;have L:=eG Tm.agl ts λt _=>t.db;have M:=eG Fm.agl l λt _=>t.db;rw[l0,Fm.xz];simp only[Fm.dv,Fm.cZ,Fm.da,Fm.eN,cN];rw[cT VW,cL]
    have p:∀(us:List Tm) (j:Nat) (v:List Tm),(∀t∈us,Nm t)->v.length+us.length<=1000000000->dP (λ(N:Int) (B:Tm)=>(λ(w:List Tm)=>
       hB (lA B 1000) λc E d=>
       if(dw d 0) then(
       some (.ret ((Fm.mk 0 (Ty.mk 0 []) [] []),d)))
       else(fY (eM w [c])<|some ((.next (eV w [c])):eu (List Tm) (Fm×Int))))) us j v=some (if(lv wH us 0).2=0 then .inl (v++(lv wH us 0).1)else .inr (eL,(lv wH us 0).2)):=by
     intro us
     induction us with
     |nil=>intro j v _ _;simp[lv]|cons t us q=>
      intro j v hm C;simp only[hW] at C;rw[dq,(hm t aaB).both.2]
      have D:wH t 0=((t.norm 1000 0).1,(t.norm 1000 0).2.2):=by unfold wH;rw[cK rfl]
      obtain⟨y,m,a,z⟩:∃y m a,t.norm 1000 0=(y,m,a):=⟨_,_,_,rfl⟩;rw[z] at D|-;rw[ij]
      by_cases he:a=0
      ·subst he;rw[cI aaa,dt aaP,cL];simp only[cv,dr];rw[eb,q (j+1) (v++[y]) (λu hu=>hm u (by simp[hu])) aaP];simp only[lv,D];simp
      ·rw[cK (by rw[cV];exact he)];simp only[lv,D];rw[pw (f:=wH) us a (λx _ e he=>zT he) he,cI he];rfl
    have r:∀(us:List Fm) (j:Nat) (v:List Fm),(∀t∈us,Pp t/\t.agl<=n/\t.agl<=1000000)->v.length+us.length<=1000000000->dP (λ(F:Int) (A:Fm)=>(λ(g:List Fm)=>
       cX (l0 n A) λi o=>
       if(dw o 0) then(
       some (.ret ((Fm.mk 0 (Ty.mk 0 []) [] []),o)))
       else(fY (eM g [i])<|some ((.next (eV g [i])):eu (List Fm) (Fm×Int))))) us j v=some (if(lv Fm.rP us 0).2=0 then .inl (v++(lv Fm.rP us 0).1)else .inr (eL,(lv Fm.rP us 0).2)):=by
     intro us
     induction us with
     |nil=>intro j v _ _;simp[lv]|cons t us q=>
      intro j v hm C;simp only[hW] at C;obtain⟨a1,a2,a3⟩:=hm t aaB;rw[dq,H t a2 a3 a1];obtain⟨y,a,z⟩:∃y a,t.rP 0=(y,a):=⟨_,_,rfl⟩;rw[z]
      by_cases he:a=0
      ·subst he;simp only[if_true];rw[cH,cI aaa,dt aaP,cL];simp only[cv,dr];rw[eb,q (j+1) (v++[y]) (λu hu=>hm u (by simp[hu])) aaP];simp only[lv,z];simp
      ·simp only[cI he];rw[cH,cK (by rw[cV];exact he)];simp only[lv,z];rw[pw (f:=Fm.rP) us a (λx _ e he=>Fm.ES x e he) he,cI he];rfl
    rw[p ts 0 [] J aaP,cv]
    by_cases he:(lv wH ts 0).2=0
    ·rw[cK he,cS,cT VW,cL,r l 0 [] (λt G=>by
      have:=c6 Fm.agl G
      exact⟨K t G,VW,VW⟩) aaP,cv,he]
     by_cases b:(lv Fm.rP l 0).2=0
     ·rw[cK b,cK b,cS,kW,kW]
     ·rw[cI b,cI b,mV]
    ·rw[cI he,mV,pw (f:=Fm.rP) l _ (λx _ e he=>Fm.ES x e he) he,cI he]
def Ty.Wy:∀(n:Nat) (s:Ty),s.agl<=n->s.err=0->∃a,du [] a s:=by
 intro n
 induction n with
 |zero=>intro s h;have:=s.db;omega
 |succ n c=>
  intro s hn he;rcases Ty.l9 he with rfl|rfl|rfl|⟨a,b,rfl,e,d⟩|⟨a,b,rfl,e,d⟩
  ·exact⟨_,.zero⟩
  ·exact⟨_,.nil⟩
  ·exact⟨_,.unit⟩
  ·rw[Ty.pV] at hn;obtain⟨x,f⟩:=c a VW e;obtain⟨y,hy⟩:=c b VW d;exact⟨_,.pair he f hy⟩
  ·rw[Ty.gv] at hn;obtain⟨y,hy⟩:=c b VW d;exact⟨_,.lam he (by have:=hy.front [a];simpa using this)⟩
def hD.down{g:List Ty}{s:Ty}{f:Fm}(h:hD (g++[s]) f)(hs:s.err=0)(c:f.agr 0=0):hD g (f.up 1 (-1)):=by
 obtain⟨a,d⟩:=Ty.Wy _ s (ig _) hs
 have b:du g a s:=by simpa using d.front g
 have:=h.put b
 rwa [Fm.xg a f 0 h.ok c] at this
def du.nm{g:List Ty}{x:Tm}{t:Ty}(h:du g x t)(hg:g.length<=1000000)(a:x.agl<=4096):Nm x:=by
 refine⟨?_,h.agp _ VW⟩;unfold Tm.err;rw[cK h.ok,cI VW]
def NP{g:List Ty}{x:Tm}{t:Ty}(h:du g x t)(hg:g.length<=1000000)(b:x.agl<=4096){e:Int}(he:(wH x e).2=0):e=0/\du g (wH x e).1 t/\(wH x e).1.agl<=4096:=by
 by_cases c:e=0
 ·subst c;unfold wH at he|-;simp only[if_true] at he|-;obtain⟨a,n,f,d⟩:∃a n f,x.norm 1000 0=(a,n,f):=⟨_,_,_,rfl⟩;rw[d] at he|-;simp only[] at he|-;subst he;exact⟨trivial,du.norm _ _ _ _ _ h d,(DS 1000 536870912 0 x a n VW (Sm.start (h.nm hg b).err (h.nm hg b).agp) b d).2⟩
 ·rw[zT c] at he;exact absurd he c
def Qm(a b:Tm)(e:Int):(Fm.mk 1 .z [a,b] []).rP e=(.mk 1 .z [(wH a e).1,(wH b (wH a e).2).1] [],(wH b (wH a e).2).2):=by rw[Fm.xz];rfl
def P_(k:Int)(a b:Fm)(e:Int):(Fm.mk k .z [] [a,b]).rP e=(.mk k .z [] [(a.rP e).1,(b.rP (a.rP e).2).1],(b.rP (a.rP e).2).2):=by rw[Fm.xz];rfl
def VP(k:Int)(s:Ty)(a:Fm)(e:Int):(Fm.mk k s [] [a]).rP e=(.mk k s [] [(a.rP e).1],(a.rP e).2):=by rw[Fm.xz];rfl
def Hk{g:List Ty}{f:Fm}(h:hD g f):∀(e:Int),g.length+f.agl<=1000000->f.agl<=4096->(f.rP e).2=0->e=0/\hD g (f.rP e).1/\(f.rP e).1.agl<=3000*f.agl:=by
 induction h with
 |@eq g a b c n=>
  intro e hg hn he;rw[Qm] at he|-;rw[Fm.cJ] at hn hg|-;simp only[cU] at hn hg|-;obtain⟨d,i,o⟩:=NP n VW VW he;obtain⟨a1,a2,a3⟩:=NP c VW VW d;refine⟨a1,.eq a2 i,?_⟩;rw[Fm.cJ];simp only[cU];have:=a.db;have:=b.db;omega
 |@two g k a b j c n l m=>
  intro e hg hn he;rw[P_] at he|-;rw[Fm.cJ] at hn hg|-;simp only[cU] at hn hg|-;obtain⟨d,i,o⟩:=m _ VW VW he;obtain⟨a1,a2,a3⟩:=l _ VW VW d;refine⟨a1,.two j a2 i,?_⟩;rw[Fm.cJ];simp only[cU];omega
 |@q g k s a j hs c p=>
  intro e hg hn he;rw[VP] at he|-;rw[Fm.cJ] at hn hg|-;simp only[cU] at hn hg|-;obtain⟨a1,a2,a3⟩:=p _ aaP VW he;refine⟨a1,.q j hs a2,?_⟩;rw[Fm.cJ];simp only[cU];omega
noncomputable def zX (f:Fm):Fm×Int:=if f.agr 0=0 then(f.up 1 (-1),0)else if(f.rP 0).2≠0 then(eL,(f.rP 0).2)else if(f.rP 0).1.agr 0≠0 then(eL,6)else((f.rP 0).1.up 1 (-1),0)
def Nr{g:List Ty}{s:Ty}{f:Fm}(h:Hg (g++[s]) f)(hg:g.length<=1000)(hs:s.err=0)(a:(zX f).2=0):hD g (zX f).1/\(zX f).1.agl<=3000*4096:=by
 have hn:=h.agl;unfold zX at a|-
 split
 ·rename_i c;refine⟨h.ty.down hs c,?_⟩;show(f.up 1 (-1)).agl<=_;rw[Fm.lO];omega
 ·rename_i c;rw[cI c] at a
  split
  ·rename_i b;rw[cK b] at a;exact absurd a b
  ·rename_i b;rw[cI b] at a
   split
   ·rename_i d;rw[cK d] at a;cases a
   ·rename_i d;obtain⟨_,a2,a3⟩:=Hk h.ty 0 aaP hn (uC.1 b);refine⟨a2.down hs VW,?_⟩;show((f.rP 0).1.up 1 (-1)).agl<=_;rw[Fm.lO];omega
def qF{g:List Ty}{s:Ty}{f:Fm}(h:Hg (g++[s]) f)(hg:g.length<=1000):la f=some (zX f):=by
 have hn:=h.agl;have k:f.agp 1000000000000=true:=h.ty.agp _ aaP;unfold la zX;rw[lj h.ok VW k VW VW,cv]
 by_cases d:f.agr 0=0
 ·rw[cK d,cK (by rw[dO];omega),ow h.ok VW k d];rfl
 ·rw[cI d,cI (by rw[dO];omega),Fl FU f 0 0 (by rw[dp];omega) VW h.ok (Pp.of f hn h.ok (h.ty.agp _ aaP))];obtain⟨a,e,i⟩:∃a e,f.rP 0=(a,e):=⟨_,_,rfl⟩;rw[i,cH];simp only[]
  by_cases he:e=0
  ·subst he;rw[cI aaa,cI aaa];have b:=Hk h.ty 0 aaP hn (by rw[i]);rw[i] at b;obtain⟨_,a2,a3⟩:=b;have a2:hD (g++[s]) a:=a2;have a3:a.agl<=3000*f.agl:=a3;have c:a.agp 1000000000000=true:=a2.agp _ aaP;rw[lj a2.ok VW c VW VW,cv]
   by_cases j:a.agr 0=0
   ·rw[cI (by rw[ei];omega),cI (by simpa using j),ow a2.ok VW c j];rfl
   ·rw[cK (by rw[ei];omega),cK j];rfl
  ·rw[cK (by rw[cV];exact he),cK he];rfl
abbrev PR:=(Fm×Nat)⊕Int
def pbind(r:PR)(k:Fm->Nat->PR):PR:=match r with|.inl p=>k p.1 p.2|.inr e=>.inr e
def qR(c:Prop)[Decidable c](e:Int)(r:PR):PR:=if c then .inr e else r
theorem hZ{c:Prop}[Decidable c]{e:Int}{r:PR}(h:c):qR c e r=.inr e:=cK h
theorem iy{c:Prop}[Decidable c]{e:Int}{r:PR}(h:¬c):qR c e r=r:=cI h
def iN(e:Int)(r:PR):PR:=if e=0 then r else .inr e
@[simp] theorem eF(f:Fm)(m:Nat)(k:Fm->Nat->PR):pbind (.inl (f,m)) k=k f m:=rfl
@[simp] theorem VL(e:Int)(k:Fm->Nat->PR):pbind (.inr e) k=.inr e:=rfl
def fR{e:Int}{r:PR}(h:e=0):iN e r=r:=cK h
def gG{e:Int}{r:PR}(h:e≠0):iN e r=.inr e:=cI h
noncomputable def Ab (r:PR):PR:=pbind r λf m=>if f.err=0 then .inl (f,if f.has then m else 0)else .inr 4
def A4(r:PR)(k:Int):PR:=pbind r λf m=>if f.agj=k then .inl (f,m)else .inr 10
noncomputable def y' (a b:Fm):Int:=(kb a b).getD 0
noncomputable def Dm (r:PR) (F:Fm) (t:Tm):PR:=pbind r λf m=>iN (kP F t).2 (iN (y' (kP F t).1 f) (.inl (f,m)))
def Ch(t:Tm):Nat->Nat
 |0=>0|j+1=>if 0<t.agr j then Ch t j|||2^j else Ch t j
def sO(t:Tm):Nat:=Ch t 32
def CE(t:Tm):∀(n i:Nat),(Ch t n).testBit i=true↔i<n/\0<t.agr i
 |0,i=>by simp[Ch]|n+1,i=>by
  have c:=CE t n i;rw[Ch]
  by_cases h:0<t.agr n
  ·rw[cK h,U8,nA,c,QZ];simp only[kn];constructor
   ·rintro(⟨a,b⟩|rfl)
    ·exact⟨VW,b⟩
    ·exact⟨VW,h⟩
   ·rintro⟨a,b⟩
    by_cases hi:n=i
    ·exact .inr hi
    ·exact .inl ⟨VW,b⟩
  ·rw[cI h,c];constructor
   ·rintro⟨a,b⟩;exact⟨VW,b⟩
   ·rintro⟨a,b⟩;refine⟨?_,b⟩;rcases tv i n with hh|hh
    ·exact hh
    ·obtain rfl:i=n:=VW
     exact absurd b h
def Jm(t:Tm)(i:Nat):(sO t).testBit i=true↔i<32/\0<t.agr i:=CE t 32 i
def v0:Tm:=.mk 1 0 (.mk 0 []) []
def v1:Tm:=.mk 1 1 (.mk 0 []) []
noncomputable def k5 (L:List Fm) (k i:Int) (s:Ty) (ts:List Tm) (fs:List Fm) (sub:Nat->List Ty->List Fm->PR) (g:List Ty) (hs:List Fm):PR:=
 let t:=ts.getD 0 Tm.z
 let F:=fs.getD 0 eL
 if k=1 then qR ((hs.length:Int)<=i) 8 (.inl (hs.getD (hs.length-1-i.toNat) eL,0))
 else if k=2 then qR ((L.length:Int)<=i) 9 (.inl (L.getD i.toNat eL,0))
 else if k=3 then pbind (sub 0 g hs) λa m=>pbind (sub 1 g hs) λb n=>.inl (.mk 2 .z [] [a,b],m|||n)
 else if k=4 then pbind (A4 (sub 0 g hs) 2) λa m=>.inl (a.agk.getD 0 eL,m)
 else if k=5 then pbind (A4 (sub 0 g hs) 2) λa m=>.inl (a.agk.getD 1 eL,m)
 else if k=6 then iN (F.qd g) (qR (16<hs.length+1) 3 (pbind (sub 0 g (hs++[F])) λb m=>.inl (.mk 3 .z [] [F,b],m)))
 else if k=7 then pbind (A4 (sub 0 g hs) 3) λa m=>pbind (sub 1 g hs) λb n=>iN (y' (a.agk.getD 0 eL) b) (.inl (a.agk.getD 1 eL,m|||n))
 else if k=8 then qR (16<g.length+1) 3 (pbind (sub 0 (g++[s]) (hs.map (Fm.up 0 1))) λb m=>.inl (.mk 4 s [] [b],m/2))
 else if k=12 then qR (16<g.length+1) 3 (pbind (sub 0 (g++[s]) (hs.map (Fm.up 0 1))) λb m=>qR (m.testBit 0=true) 12 (.inl (.mk 6 s [] [b],m/2)))
 else if k=9 then iN (t.ty g).2 (pbind (A4 (sub 0 g hs) 4) λa m=>qR ((t.ty g).1.jO a.cO=false) 7 (iN (kP (a.agk.getD 0 eL) t).2 (.inl ((kP (a.agk.getD 0 eL) t).1,m|||sO t))))
 else if k=13 then iN (t.ty g).2 (pbind (A4 (sub 0 g hs) 6) λa m=>qR ((t.ty g).1.jO a.cO=false) 7 (iN (kP (a.agk.getD 0 eL) t).2 (.inl ((kP (a.agk.getD 0 eL) t).1,m))))
 else if k=10 then iN (F.qd g) (qR (F.agj≠5) 10 (iN (t.ty g).2 (qR ((t.ty g).1.jO F.cO=false) 7 (pbind (Dm (sub 0 g hs) (F.agk.getD 0 eL) t) λ_ m=>.inl (F,m|||sO t)))))
 else if k=14 then iN (F.qd g) (qR (F.agj≠7) 10 (iN (t.ty g).2 (qR ((t.ty g).1.jO F.cO=false) 7 (pbind (Dm (sub 0 g hs) (F.agk.getD 0 eL) t) λ_ m=>.inl (F,m)))))
 else if k=11 then pbind (A4 (sub 0 g hs) 5) λa m=>qR (16<g.length+1\/16<hs.length+1) 3 (pbind (sub 1 (g++[a.cO]) (hs.map (Fm.up 0 1)++[a.agk.getD 0 eL])) λb n=>iN (zX b).2 (.inl ((zX b).1,m|||n/2)))
 else if k=15 then pbind (A4 (sub 0 g hs) 7) λa m=>qR (16<g.length+1\/16<hs.length+1) 3 (pbind (sub 1 (g++[a.cO]) (hs.map (Fm.up 0 1)++[a.agk.getD 0 eL])) λb n=>iN (zX b).2 (qR (n.testBit 0=true) 12 (.inl ((zX b).1,m|||n/2))))
 else if k=16 then iN (F.qd (g++[.nat])) (iN (kO t g 1) (pbind (Dm (sub 0 g hs) F mb) λ_ m=>qR (16<g.length+1\/16<hs.length+1) 3 (
  pbind (Dm (sub 1 (g++[.nat]) (hs.map (Fm.up 0 1)++[F])) (F.up 1 1) (gu v0)) λ_ n=>iN (kP F t).2 (.inl ((kP F t).1,(sO t|||m)|||n/2)))))
 else if k=17 then iN (F.qd (g++[.k1])) (iN (kO t g 2) (pbind (Dm (sub 0 g hs) F (.mk 7 0 .z [])) λ_ m=>qR (16<g.length+2\/16<hs.length+1) 3 (
  pbind (Dm (sub 1 (g++[.nat]++[.k1]) (hs.map (Fm.up 0 2)++[F.up 1 1])) (F.up 1 2) (.mk 8 0 .z [v1,v0])) λ_ n=>iN (kP F t).2 (.inl ((kP F t).1,(sO t|||m)|||n/4)))))
 else if k=18 then iN (kO t g 1) (.inl (.mk 1 .z [t,t] [],0))
 else if k=19 then iN (F.qd (g++[.nat])) (pbind (A4 (sub 0 g hs) 1) λa _=>pbind (Dm (sub 1 g hs) F (a.dc.getD 0 Tm.z)) λ_ n=>iN (kP F (a.dc.getD 1 Tm.z)).2 (.inl ((kP F (a.dc.getD 1 Tm.z)).1,n)))
 else pbind (A4 (sub 0 g hs) 4) λa m=>qR ((a.agk.getD 0 eL).agj≠5) 10 (qR ((Ty.fn a.cO (a.agk.getD 0 eL).cO).err≠0) 4 (qR ((kP (((a.agk.getD 0 eL).agk.getD 0 eL).up 2 1) (gp v1 v0)).2≠0) 4 (.inl (.mk 5 (Ty.fn a.cO (a.agk.getD 0 eL).cO) [] [.mk 4 a.cO [] [(kP (((a.agk.getD 0 eL).agk.getD 0 eL).up 2 1) (gp v1 v0)).1]],m))))
mutual
noncomputable def Pf.inf (L:List Fm):Pf->List Ty->List Fm->PR
 |.mk k i s ts fs l,g,hs=>Ab (k5 L k i s ts fs (Pf.oY L l) g hs)
noncomputable def Pf.oY (L:List Fm):List Pf->Nat->List Ty->List Fm->PR
 |[],_,_,_=>.inr 2|p::_,0,g,hs=>p.inf L g hs|_::l,n+1,g,hs=>Pf.oY L l n g hs
end
def Ye(g:List Ty)(s:PR)(k:Option (cM×Int))(r:Option (ur×Int)):Prop:=
 (∃e,e≠0/\s=.inr e/\k=some (⟨eL,0⟩,e)/\r=some (⟨eL,[]⟩,e))\/∃(f:Fm) (m:Nat) (l:List Int),s=.inl (f,m)/\k=some (⟨f,(m:Int)⟩,0)/\r=some (⟨f,l⟩,0)/\Us l m/\Hg g f
def iD(g:List Ty)(s:PR)(k:Option (cM×Int))(r:Option (Fm×List Int×Int)):Prop:=
 (∃e x f l,e≠0/\s=.inr e/\k=some (x,e)/\r=some (f,l,e))\/∃(f:Fm) (m:Nat) (l:List Int),s=.inl (f,m)/\k=some (⟨f,(m:Int)⟩,0)/\r=some (f,l,0)/\Us l m/\hD g f/\f.agl<=15000000
theorem iD.no{g:List Ty}{s:PR}{k:Option (cM×Int)}{r:Option (Fm×List Int×Int)}{e:Int}{x:cM}{f:Fm}{l:List Int}(he:e≠0)(a:s=.inr e)(b:k=some (x,e))(c:r=some (f,l,e)):iD g s k r:=.inl ⟨e,x,f,l,he,a,b,c⟩
def iD.yes{g:List Ty}{s:PR}{k:Option (cM×Int)}{r:Option (Fm×List Int×Int)}{f:Fm}{m:Nat}{l:List Int}(a:s=.inl (f,m))(b:k=some (⟨f,(m:Int)⟩,0))(c:r=some (f,l,0))(d:Us l m)(e:hD g f)(h:f.agl<=15000000):iD g s k r:=.inr ⟨f,m,l,a,b,c,d,e,h⟩
def iD.infer{g:List Ty}(hg:g.length<=16){s:PR}{k:Option (cM×Int)}{r:Option (Fm×List Int×Int)}(h:iD g s k r):Ye g (Ab s) (Di k) (Df r):=by
 rcases h with⟨e,x,f,l,he,rfl,rfl,rfl⟩|⟨f,m,l,rfl,rfl,rfl,hu,b,hn⟩
 ·refine .inl ⟨e,he,rfl,?_,?_⟩
  ·unfold Di;rw[cH,cK (by rw[cV];exact he)];rfl
  ·unfold Df;rw[ij,cK (by rw[cV];exact he)];rfl
 ·have c:=b.ok;have hw:=f.gm c;have i:=b.agp 1000000000000 VW;have d:Ab (.inl (f,m))=if f.err=0 then .inl (f,if f.has then m else 0)else .inr 4:=rfl;unfold Di Df;rw[cH,ij];simp only[cN];rw[cI aaa,cI aaa,fQ VW,g_ VW,cv,cv]
  by_cases a:f.err=0
  ·rw[cI (by rw[cV];simp[a]),cI (by rw[cV];simp[a]),xB VW i,xq _ VW,d,cK a];rw[cI (show¬(f.err≠0) by simpa using a),cH,cH];cases f.has with
   |true=>exact .inr ⟨f,m,l,rfl,rfl,rfl,hu,⟨a,b⟩⟩|false=>exact .inr ⟨f,0,[],rfl,rfl,rfl,.nil,⟨a,b⟩⟩
  ·rw[cK (by rw[cV];exact a),cK (by rw[cV];exact a),d,cI a];exact .inl ⟨4,aaa,rfl,rfl,rfl⟩
def fX(L:List Fm)(P:Pf)(N:Nat):Prop:=∀n n',N<=n->N<=n'->∀p c,PG L p c->Ye c.agn (P.inf L c.agn c.agq) (dB n L P p) (de n' c P)
def jw{g:List Ty}{s:PR}{n:Nat}{L:List Fm}{P:Pf}{p:cQ}{r:Option (ur×Int)}(h:Ye g s (dB n L P p) r)(k:Int):(∃e,e≠0/\A4 s k=.inr e/\dA (n+1) L P p k=some (⟨eL,0⟩,e)/\((r=some (⟨eL,[]⟩,e))\/∃f l m,r=some (⟨f,l⟩,0)/\f.agj≠k/\e=10/\Us l m))\/∃(f:Fm) (m:Nat) (l:List Int),A4 s k=.inl (f,m)/\dA (n+1) L P p k=some (⟨f,(m:Int)⟩,0)/\r=some (⟨f,l⟩,0)/\Us l m/\Hg g f/\f.agj=k:=by
 rcases h with⟨e,he,a,d,b⟩|⟨f,m,l,a,d,b,hu,i⟩
 ·refine .inl ⟨e,he,by rw[a];rfl,?_,.inl b⟩
  grind[dA,cH,kS,dO]
 ·by_cases c:f.agj=k
  ·grind[A4,eF,dA,cH,kS,cV]
  ·refine .inl ⟨10,aaa,by rw[a];unfold A4;rw[eF,cI c],?_,.inr ⟨f,l,m,b,c,rfl,hu⟩⟩;rw[dA,d,cH,cK (by rw[kS,ez,cV,dO];exact⟨rfl,c⟩)];rfl
def Ic{a b:Fm}(d:a.wt<=1000000000)(e:b.wt<=1000000000):kb a b=some (y' a b)/\ni a b=some (y' a b):=by
 obtain⟨c,f,g⟩:=vA d e
 have:y' a b=c:=by unfold y';rw[f];rfl
 grind
structure nx (g:List Ty) (F:Fm) (t:Tm):Prop where
 fe:F.err=0
 te:t.err=0
 ty:∃s,hD (g++[s]) F/\du g t s
def nx.put{g:List Ty}{F:Fm}{t:Tm}(h:nx g F t):hD g (Fm.j3 0 F t):=by
 obtain⟨s,a,b⟩:=h.ty;exact a.put b
def nx.both{g:List Ty}{F:Fm}{t:Tm}(h:nx g F t)(hg:g.length<=100):gQ F t=some (kP F t)/\iJ F t=some (kP F t):=by
 obtain⟨s,c,d⟩:=h.ty;obtain⟨_,a2⟩:=Fm.eJ h.fe;obtain⟨_,e⟩:=Tm.eJ h.te;have a:F.agp 536870912=true:=c.agp _ aaP;have b:t.agp 536870912=true:=d.agp _ VW;refine⟨Bo h.fe h.te (Fm.iM F VW a) (Tm.iM t VW b),?_⟩;unfold iJ;rw[AI h.fe h.te a b h.put.ok];rfl
def ma(F:Fm)(t:Tm):kP F t=(eL,4)\/(Fm.j3 0 F t).agl<=4096/\kP F t=(Fm.j3 0 F t,0):=by
 unfold kP
 split
 ·exact .inl rfl
 ·grind
def nO{g:List Ty}(hg:g.length<=16){s:PR}{n n':Nat}{L:List Fm}{P:Pf}{p:cQ}{c:cW}(h:Ye g s (dB n L P p) (de n' c P)){F:Fm}{t:Tm}(q:nx g F t):(∃e x l m,e≠0/\Dm s F t=.inr e/\dD (n+1) L P p F t=some (x,e)/\dQ (n'+1) c P F t=some (l,e)/\Us l m)\/∃(f:Fm) (m:Nat) (l:List Int),Dm s F t=.inl (f,m)/\dD (n+1) L P p F t=some (⟨f,(m:Int)⟩,0)/\dQ (n'+1) c P F t=some (l,0)/\Us l m:=by
 obtain⟨i,k2⟩:=q.both VW;rcases h with⟨e,he,j,k,o⟩|⟨f,m,l,j,k,o,hu,r⟩
 ·refine .inl ⟨e,⟨eL,0⟩,[],0,he,by rw[j];rfl,?_,?_,.nil⟩
  ·rw[dD,k,cH,cK (by rw[cV];exact he)];rfl
  ·rw[dQ,o,cH,cK (by rw[cV];exact he)]
 ·rcases ma F t with d|⟨hn,d⟩
  ·rw[d] at i k2;refine .inl ⟨4,⟨eL,0⟩,[],0,aaa,?_,?_,?_,.nil⟩
   ·rw[j];unfold Dm;rw[eF,d];rfl
   ·rw[dD,k,cH,cI aaa,i,cH,cK aaa];rfl
   ·rw[dQ,o,cH,cI aaa,k2,cH,cK aaa]
  ·rw[d] at i k2;have B:=Fm.gm _ q.put.ok;have C:=Fm.gm _ r.ok;have u:=r.agl;obtain⟨v,w⟩:=Ic (a:=Fm.j3 0 F t) (b:=f) VW VW
   have y:Dm s F t=iN (y' (Fm.j3 0 F t) f) (.inl (f,m)):=by rw[j];unfold Dm;rw[eF,d,fR rfl]
   have z:dD (n+1) L P p F t=some (⟨f,(m:Int)⟩,y' (Fm.j3 0 F t) f):=by
    rw[dD,k,cH,cI aaa,i,cH,cI aaa,v,cv]
   have A:dQ (n'+1) c P F t=some (l,y' (Fm.j3 0 F t) f):=by
    rw[dQ,o,cH,cI aaa,k2,cH,cI aaa,w,cv]
   rw[y,z,A]
   by_cases hm:y' (Fm.j3 0 F t) f=0
   ·rw[fR hm,hm];exact .inr ⟨f,m,l,rfl,rfl,rfl,hu⟩
   ·rw[gG hm];exact .inl ⟨_,_,_,m,hm,rfl,rfl,rfl,hu⟩
theorem zF{g:List Ty}(h:gA g)(hg:g.length<=16):rb g=0:=by
 unfold rb;rw[cI VW]
 induction g with
 |nil=>rfl|cons s g a=>
  have b:=h s aaB;simp only[y5,eC];rw[cK b];exact a (λx c=>h x (by simp[c])) (by simp at hg;omega)
def nT{g:List Ty}(a:gA g)(hg:g.length<=17){F:Fm}(hF:F.err=0):dy FU (g.map nI) F=some (F.qd g)/\jP g F=some (F.qd g)/\(g.length<=16->jh g F=some (F.qd g)):=by
 obtain⟨a1,a2⟩:=Fm.eJ hF;have hw:=F.gm a1;refine⟨qi F a1 FU (by rw[dp];omega) g a VW a2,?_,λb=>?_⟩
 ·unfold jP;rw[g_ VW,hF,cv,cI aaa,ug F a1 FU (by rw[dp];omega) g a VW a2];rfl
 ·rw[pF VW VW (λt c=>by have:=dE (a t c);omega)];unfold A5
  grind[zF]
def jy{g:List Ty}(a:gA g)(hg:g.length<=16){t:Tm}(b:t.err=0):dx FU (g.map nI) t=some (BR (t.ty g))/\jz g t=some (t.ty g):=by
 obtain⟨a1,a2⟩:=Tm.eJ b;refine⟨rE a1 a VW,?_⟩;unfold jz;rw[nK g VW (λt b=>by have:=dE (a t b);omega),zF a hg,tC a1 a2 a VW];rfl
def has_both{g:List Ty}(b:gA g)(hg:g.length<=16){c:cW}(a:c.agn=g){t:Tm}(d:t.err=0)(k:Int):gR (g.map nI) t k=some (kO t g k)/\gi c t k=some (kO t g k):=by
 obtain⟨a1,a2⟩:=Tm.eJ d;refine⟨vd k a1 b VW,?_⟩;unfold gi kO;rw[a,(jy b hg d).2]
 grind[cH,cV]
def rj{g:List Ty}(hg:g.length<=16){t:Tm}{s:Ty}(h:du g t s)(b:t.err=0):∃l,iP t=some (sO t:Int)/\jr t=some l/\Us l (sO t):=by
 obtain⟨a1,a2⟩:=Tm.eJ b;have a:∀j:Int,32<=j->t.agr j=0:=λj e=>h.HG j VW;obtain⟨l,m,f,k,c,d⟩:=Qi b (h.agp _ VW) a
 have:m=sO t:=by
  refine YF λi=>?_;rw[xi,<-c.mem i,d,Jm]
  grind
 grind
def nz:¬dw 0 0=true:=aaa
def lI(n:Nat)(a0:List Fm)(a1:Pf)(a2:cQ):Option (cM×Int):=
 if dm a1.agj 1 then pO a0 a1 a2 else(if dm a1.agj 2 then oy a0 a1 a2 else(if dm a1.agj 3 then jW n a0 a1 a2 else(if dm a1.agj 4 then gj n a0 a1 a2 else(if dm a1.agj 5 then gj n a0 a1 a2 else(if dm a1.agj 6 then jV n a0 a1 a2 else(if dm a1.agj 7 then jT n a0 a1 a2 else(if dm a1.agj 8 then fS n a0 a1 a2 else(if dm a1.agj 12 then fS n a0 a1 a2 else(if dm a1.agj 9 then fT n a0 a1 a2 else(if dm a1.agj 13 then fT n a0 a1 a2 else(if dm a1.agj 10 then gk n a0 a1 a2 else(if dm a1.agj 14 then gk n a0 a1 a2 else(if dm a1.agj 11 then gh n a0 a1 a2 else(if dm a1.agj 15 then gh n a0 a1 a2 else(if dm a1.agj 16 then lh n a0 a1 a2 else(if dm a1.agj 17 then lh n a0 a1 a2 else(if dm a1.agj 18 then oQ a0 a1 a2 else(if dm a1.agj 19 then jE n a0 a1 a2 else(if dm a1.agj 20 then kQ n a0 a1 a2 else none)))))))))))))))))))
def abi(n:Nat)(L:List Fm)(P:Pf)(p:cQ):dB (n+1) L P p=Di (lI n L P p):=by rw[dB];rfl
def aag(n:Nat)(c:cW)(P:Pf):de (n+1) c P=Df (c0 n c P):=by rw[de];rfl
def Pf.CO(L:List Fm)(k i:Int)(s:Ty)(ts:List Tm)(a:List Fm)(l:List Pf)(g:List Ty)(hs:List Fm):(Pf.mk k i s ts a l).inf L g hs=Ab (k5 L k i s ts a (Pf.oY L l) g hs):=by rw[Pf.inf]
def fX.of{L:List Fm}{k i:Int}{s:Ty}{ts:List Tm}{a:List Fm}{l:List Pf}{N:Nat}
  (H:∀n n',N<=n->N<=n'->∀p c,PG L p c->iD c.agn (k5 L k i s ts a (Pf.oY L l) c.agn c.agq) (lI (n+4) L (.mk k i s ts a l) p) (c0 (n'+4) c (.mk k i s ts a l))):fX L (.mk k i s ts a l) (N+5):=by
 intro n n' hn d p c h;obtain⟨m,rfl⟩:∃m,n=m+5:=⟨n-5,VW⟩;obtain⟨b,rfl⟩:∃b,n'=b+5:=⟨n'-5,VW⟩;exact iD.infer h.pl.nv (H m b VW VW p c h)
def Xo(n:Nat)(c:cW)(i:Int):c0 (n+1) c (.mk 1 i .z [] [] [])=if(rZ i (dn c.agq)) then some (eL,[],8)else cG (df c.agq (ea .i64 (ea .i64 (dn c.agq) 1) i)) λa=>some (a,[],0):=by rw[c0];rfl
def W6(L:List Fm)(i:Int)(g:List Ty)(hs:List Fm):k5 L 1 i .z [] [] (Pf.oY L []) g hs=qR ((hs.length:Int)<=i) 8 (.inl (hs.getD (hs.length-1-i.toNat) eL,0)):=rfl
def V8(n:Nat)(L:List Fm)(i:Int)(p:cQ):lI n L (.mk 1 i .z [] [] []) p=cX (j5 p i) λa b=>if b then some (⟨a,0⟩,0)else some (⟨eL,0⟩,8):=rfl
def Mf{L:List Fm}{i:Int}(hi:0<=i):fX L (.mk 1 i .z [] [] []) 5:=by
 refine fX.of (N:=0) λn n' _ _ p c h=>?_;rw[Xo,W6,V8];have g:=h.pl.Hb hi
 by_cases e:(c.agq.length:Int)<=i
 ·grind[hZ,cH,rZ,dn,fC,dz,iD.no]
 ·rw[cI e] at g;obtain⟨f,d,k⟩:=g;rw[iy e,k,cH,cK rfl,cI (show¬(rZ i (dn c.agq)=true) by rw[fC,dz];exact e),d,cv];have l:=h.pl.nh;rw[dz,dF (a:=(c.agq.length:Int)) VW VW,dF VW VW] at d
  have b:c.agq.length-1-i.toNat<c.agq.length:=VW
  rw[show(c.agq.length:Int)-1-i=((c.agq.length-1-i.toNat:Nat):Int) by omega,e_,nw b] at d
  have m:c.agq.getD (c.agq.length-1-i.toNat) eL=f:=by grind
  have j:=h.agq f (by rw[<-gB d];exact D7 b);exact iD.yes (by rw[m]) rfl rfl .nil j.ty (by have:=j.agl;omega)
def XG(n:Nat)(c:cW)(i:Int):c0 (n+1) c (.mk 2 i .z [] [] [])=if(rZ i (dn c.lemmas)) then some (eL,[],9)else cG (df c.lemmas i) λa=>some (a,[],0):=by rw[c0];rfl
def XD(L:List Fm)(i:Int)(g:List Ty)(hs:List Fm):k5 L 2 i .z [] [] (Pf.oY L []) g hs=qR ((L.length:Int)<=i) 9 (.inl (L.getD i.toNat eL,0)):=rfl
def Wu(n:Nat)(L:List Fm)(i:Int)(p:cQ):lI n L (.mk 2 i .z [] [] []) p=if(rZ i (dn L)) then some (⟨eL,0⟩,9)else cG (df L i) λa=>some (⟨a,0⟩,0):=rfl
def Nd{L:List Fm}{i:Int}(hi:0<=i):fX L (.mk 2 i .z [] [] []) 5:=by
 refine fX.of (N:=0) λn n' _ _ p c h=>?_;rw[XG,XD,Wu,h.F8]
 by_cases b:(L.length:Int)<=i
 ·grind[hZ,fC,dz,iD.no]
 ·obtain⟨k,rfl⟩:∃k:Nat,i=k:=⟨i.toNat,VW⟩
  have a:k<L.length:=VW
  rw[iy b,cI (by rw[fC,dz];exact b),cI (by rw[fC,dz];exact b),e_,nw a,cv,cv]
  have e:L.getD (k:Int).toNat eL=L[k]:=by grind
  have d:=h.Sx _ (D7 a);exact iD.yes (by rw[e]) rfl rfl .nil (by simpa using d.ty.front c.agn) (by have:=d.agl;omega)
def Tw(n:Nat)(c:cW)(a b:Pf):c0 (n+1) c (.mk 3 0 .z [] [] [a,b])=cX (de n c a) λd e=>if(dw e 0) then some (eL,[],e)else cX (de n c b) λf g=>cG (m7 2 d.cR f.cR) λh=>cG (eY d.eX f.eX) λi=>some (h,i,g):=by rw[c0];rfl
def TY(L:List Fm)(a b:Pf)(g:List Ty)(hs:List Fm):k5 L 3 0 .z [] [] (Pf.oY L [a,b]) g hs=pbind (a.inf L g hs) λf m=>pbind (b.inf L g hs) λc n=>.inl (.mk 2 .z [] [f,c],m|||n):=rfl
def SZ(n:Nat)(L:List Fm)(a b:Pf)(p:cQ):lI (n+1) L (.mk 3 0 .z [] [] [a,b]) p=cX (dB n L a p) λc d=>if(dw d 0) then some (⟨eL,0⟩,d)else cX (dB n L b p) λe f=>if(dw f 0) then some (⟨eL,0⟩,f)else some (⟨.mk 2 .z [] [c.cR,e.cR],vT .u32 c.eX e.eX⟩,0):=by
 show jW (n+1) L (.mk 3 0 .z [] [] [a,b]) p=_;rw[jW];rfl
def Hr:eL.wt<=1000000:=aaa
def JP{L:List Fm}{a b:Pf}{N:Nat}(t:fX L a N)(u:fX L b N):fX L (.mk 3 0 .z [] [] [a,b]) (N+5):=by
 refine fX.of λn n' hn v p c h=>?_;rw[Tw,TY,SZ];rcases t (n+3) (n'+3) VW VW p c h with⟨e,he,d,g,i⟩|⟨f,m,l,d,g,i,hu,o⟩
 ·rw[d,g,i,cH,cH,cK (by rw[cV];exact he),cK (by rw[cV];exact he)];exact iD.no he rfl rfl rfl
 ·have w:=o.agl;have x:=f.gm o.ok;rw[d,g,i,cH,cH,cI aaa,cI aaa,eF];rcases u (n+3) (n'+3) VW VW p c h with⟨e,he,d,g,i⟩|⟨y,C,D,d,g,i,k,j⟩
  ·obtain⟨q,q1,_⟩:=hu.union .nil (by have:=hu.len;omega) aaB;have:=Hr;rw[d,g,i,cH,cH,cK (by rw[cV];exact he)];simp only[];rw[Ag VW VW,cv,q1];exact iD.no he rfl rfl rfl
  ·have r:=j.agl;have s:=y.gm j.ok;obtain⟨q,q1,A,B,_⟩:=hu.union k (by have:=hu.len;omega) (by have:=k.len;omega);rw[d,g,i,cH,cH,cI aaa,eF];simp only[];rw[Ag VW VW,cv,q1,A];refine iD.yes rfl rfl rfl B (.two (.inl rfl) o.ty j.ty) ?_;rw[Fm.cJ];simp only[cU];omega
def hD.M8{g:List Ty}{f:Fm}(h:hD g f){k:Int}(d:f.agj=k)(e:k=2\/k=3):∃a b,f=.mk k .z [] [a,b]/\hD g a/\hD g b:=by
 cases h with
 |eq _ _=>grind[Fm.da]|two c i j=>grind[Fm.da]|q c _ _=>grind[Fm.da]
def hD.yT{g:List Ty}{f:Fm}(h:hD g f){k:Int}(d:f.agj=k)(e:k=4\/k=5\/k=6\/k=7):∃s a,f=.mk k s [] [a]/\s.err=0/\hD (g++[s]) a:=by
 cases h with
 |eq _ _=>grind[Fm.da]|two b c i=>grind[Fm.da]|q b hs c=>grind[Fm.da]
def hD.Xn{g:List Ty}{f:Fm}(h:hD g f)(i:f.agj=1):∃a b,f=.mk 1 .z [a,b] []/\du g a .nat/\du g b .nat:=by
 cases h with
 |eq d e=>grind|two c d e=>simp_all|q c hs d=>simp_all
def Hg.sub{g a:List Ty}{k:Int}{s:Ty}{ts:List Tm}{l:List Fm}(h:Hg g (.mk k s ts l)){x:Fm}(c:x∈l)(b:hD a x):Hg a x:=by
 have d:=h.agl;rw[Fm.cJ] at d;have:=c6 Fm.agl c;refine⟨?_,b⟩;unfold Fm.err;rw[cK b.ok,cI VW]
def Sn(n:Nat)(c:cW)(a:Pf):c0 (n+1) c (.mk 4 0 .z [] [] [a])=cX (de n c a) λb d=>if(dw d 0) then some (eL,[],d)else if(dw b.cR.agj 2) then some (eL,[],10)else cG (df b.cR.agk (ea .i64 4 4)) λe=>some (e,b.eX,0):=by rw[c0];rfl
def TW(n:Nat)(c:cW)(a:Pf):c0 (n+1) c (.mk 5 0 .z [] [] [a])=cX (de n c a) λb d=>if(dw d 0) then some (eL,[],d)else if(dw b.cR.agj 2) then some (eL,[],10)else cG (df b.cR.agk (ea .i64 5 4)) λe=>some (e,b.eX,0):=by rw[c0];rfl
def SV(L:List Fm)(a:Pf)(g:List Ty)(hs:List Fm):k5 L 4 0 .z [] [] (Pf.oY L [a]) g hs=pbind (A4 (a.inf L g hs) 2) λf m=>.inl (f.agk.getD 0 eL,m):=rfl
def Ss(L:List Fm)(a:Pf)(g:List Ty)(hs:List Fm):k5 L 5 0 .z [] [] (Pf.oY L [a]) g hs=pbind (A4 (a.inf L g hs) 2) λf m=>.inl (f.agk.getD 1 eL,m):=rfl
def SA(n:Nat)(L:List Fm)(a:Pf)(p:cQ):lI (n+1) L (.mk 4 0 .z [] [] [a]) p=cX (dA n L a p 2) λb c=>if(dw c 0) then some (⟨eL,0⟩,c)else cG (df b.cR.agk 0) λd=>some (⟨d,b.eX⟩,0):=by
 show gj (n+1) L (.mk 4 0 .z [] [] [a]) p=_;rw[gj];rfl
def Ue(n:Nat)(L:List Fm)(a:Pf)(p:cQ):lI (n+1) L (.mk 5 0 .z [] [] [a]) p=cX (dA n L a p 2) λb c=>if(dw c 0) then some (⟨eL,0⟩,c)else cG (df b.cR.agk 1) λd=>some (⟨d,b.eX⟩,0):=by
 show gj (n+1) L (.mk 5 0 .z [] [] [a]) p=_;rw[gj];rfl
def Jh{L:List Fm}{a:Pf}{N:Nat}(o:fX L a N):fX L (.mk 4 0 .z [] [] [a]) (N+5):=by
 refine fX.of λn n' hn q p c h=>?_;rw[Sn,SV,SA];rcases jw (o (n+2) (n'+3) VW VW p c h) 2 with⟨e,he,d,g,b⟩|⟨f,m,l,d,g,b,hu,j,i⟩
 ·rw[d,g,cH,cK (by rw[cV];exact he)];rcases b with b|⟨f,l,m,b,i,rfl,_⟩
  ·rw[b,cH,cK (by rw[cV];exact he)];exact iD.no he rfl rfl rfl
  ·rw[b,cH,cI aaa,cK (by rw[cV];exact i)];exact iD.no he rfl rfl rfl
 ·obtain⟨x,y,rfl,k,hy⟩:=j.ty.M8 i (.inl rfl);rw[d,g,b,cH,cH,cI aaa,cI aaB,eF];exact iD.yes (f:=x) rfl rfl rfl hu k (by have:=(j.sub aaB k).agl;omega)
def Kg{L:List Fm}{a:Pf}{N:Nat}(k:fX L a N):fX L (.mk 5 0 .z [] [] [a]) (N+5):=by
 refine fX.of λn n' hn o p c h=>?_;rw[TW,Ss,Ue];rcases jw (k (n+2) (n'+3) VW VW p c h) 2 with⟨e,he,d,g,b⟩|⟨f,m,l,d,g,b,hu,j,i⟩
 ·rw[d,g,cH,cK (by rw[cV];exact he)];rcases b with b|⟨f,l,m,b,i,rfl,_⟩
  ·rw[b,cH,cK (by rw[cV];exact he)];exact iD.no he rfl rfl rfl
  ·rw[b,cH,cI aaa,cK (by rw[cV];exact i)];exact iD.no he rfl rfl rfl
 ·obtain⟨x,y,rfl,q,hy⟩:=j.ty.M8 i (.inl rfl);rw[d,g,b,cH,cH,cI aaa,cI aaB,eF];exact iD.yes (f:=y) rfl rfl rfl hu hy (by have:=(j.sub aaB hy).agl;omega)
def SK(n:Nat)(c:cW)(F:Fm)(a:Pf):c0 (n+1) c (.mk 6 0 .z [] [F] [a])=cG (jh c.agn F) λb=>if(dw b 0) then some (eL,[],b)else cG (di c 0 1) λd=>if(dw d 0) then some (eL,[],d)else cG (eT c F) λf=>cX (de n f a) λe g=>cG (m7 3 F e.cR) λh=>some (h,e.eX,g):=by rw[c0];rfl
def SC(L:List Fm)(F:Fm)(a:Pf)(g:List Ty)(hs:List Fm):k5 L 6 0 .z [] [F] (Pf.oY L [a]) g hs=iN (F.qd g) (qR (16<hs.length+1) 3 (pbind (a.inf L g (hs++[F])) λb m=>.inl (.mk 3 .z [] [F,b],m))):=rfl
def SB(n:Nat)(L:List Fm)(F:Fm)(a:Pf)(p:cQ):lI (n+1) L (.mk 6 0 .z [] [F] [a]) p=cG (dy FU p.agn F) λb=>if(dw b 0) then some (⟨eL,0⟩,b)else cG (dk p.eB 0 1) λc=>if(dw c 0) then some (⟨eL,0⟩,c)else cG (ep p F) λf=>cX (dB n L a f) λd e=>if(dw e 0) then some (⟨eL,0⟩,e)else some (⟨.mk 3 .z [] [F,d.cR],d.eX⟩,0):=by
 show jV (n+1) L (.mk 6 0 .z [] [F] [a]) p=_;rw[jV];rfl
def JM{L:List Fm}{F:Fm}(hF:F.err=0){a:Pf}{N:Nat}(u:fX L a N):fX L (.mk 6 0 .z [] [F] [a]) (N+5):=by
 refine fX.of λn n' hn w p c h=>?_;rw[SK,SC,SB];have j:=h.pl.nv;obtain⟨t1,_,t2⟩:=nT h.pl.ctx VW hF;have x:=(Fm.eJ hF).2;have y:=F.gm (Fm.eJ hF).1;rw[h.pl.agn,t1,t2 j,cv,cv]
 by_cases b:F.qd c.agn=0
 ·rw[cI (by rw[cV];simpa using b),cI (by rw[cV];simpa using b),fR b];have i:=nS F (Fm.eJ hF).1 c.agn h.pl.ctx b;rcases h.room (v:=0) (k:=1) VW VW with⟨d,g,_,t⟩|⟨d,g,t⟩
  ·have d:dk p.eB 0 1=some 0:=d;have g:di c 0 1=some 0:=g;rw[d,g,cv,cv,cI aaa,cI aaa,iy VW];obtain⟨A,B,C,D,E,G,H⟩:=h.with ⟨hF,i⟩ t;rw[C,D,cv,cv];have hi:=u (n+3) (n'+3) VW VW A B E;rw[G,H] at hi;rcases hi with⟨e,he,o,q,r⟩|⟨f,m,l,o,q,r,hu,s⟩
   ·have:=Hr;rw[o,q,r,cH,cH,cK (by rw[cV];exact he)];simp only[];rw[Ag VW VW];exact iD.no he rfl rfl rfl
   ·have I:=s.agl;have J:=f.gm s.ok;rw[o,q,r,cH,cH,cI aaa];simp only[];rw[Ag VW VW];refine iD.yes rfl rfl rfl hu (.two (.inr rfl) i s.ty) ?_;rw[Fm.cJ];simp only[cU];omega
  ·have d:dk p.eB 0 1=some 3:=d;have g:di c 0 1=some 3:=g;rw[d,g,cv,cv,cK aaa,cK aaa,hZ VW];exact iD.no aaa rfl rfl rfl
 ·rw[cK (by rw[cV];exact b),cK (by rw[cV];exact b),gG b];exact iD.no b rfl rfl rfl
def TU(n:Nat)(c:cW)(a b:Pf):c0 (n+1) c (.mk 7 0 .z [] [] [a,b])=cX (de n c a) λd e=>if(dw e 0) then some (eL,[],e)else if(dw d.cR.agj 3) then some (eL,[],10)else cX (de n c b) λf g=>if(dw g 0) then some (eL,[],g)else cG (df d.cR.agk 1) λh=>cG (eY d.eX f.eX) λi=>cG (df d.cR.agk 0) λj=>cG (ni j f.cR) λk=>some (h,i,k):=by rw[c0];rfl
def TA(L:List Fm)(a b:Pf)(g:List Ty)(hs:List Fm):k5 L 7 0 .z [] [] (Pf.oY L [a,b]) g hs=pbind (A4 (a.inf L g hs) 3) λa m=>pbind (b.inf L g hs) λb n=>iN (y' (a.agk.getD 0 eL) b) (.inl (a.agk.getD 1 eL,m|||n)):=rfl
def SP(n:Nat)(L:List Fm)(a b:Pf)(p:cQ):lI (n+1) L (.mk 7 0 .z [] [] [a,b]) p=cX (dA n L a p 3) λc d=>if(dw d 0) then some (⟨eL,0⟩,d)else cX (dB n L b p) λe f=>if(dw f 0) then some (⟨eL,0⟩,f)else cG (df c.cR.agk 0) λh=>cG (kb h e.cR) λg=>if(dw g 0) then some (⟨eL,0⟩,g)else cG (df c.cR.agk 1) λi=>some (⟨i,vT .u32 c.eX e.eX⟩,0):=by
 show jT (n+1) L (.mk 7 0 .z [] [] [a,b]) p=_;rw[jT];rfl
def Jg{L:List Fm}{a b:Pf}{N:Nat}(B:fX L a N)(C:fX L b N):fX L (.mk 7 0 .z [] [] [a,b]) (N+5):=by
 refine fX.of λn n' hn D p c h=>?_;rw[TU,TA,SP];rcases jw (B (n+2) (n'+3) VW VW p c h) 3 with⟨e,he,g,i,d⟩|⟨f,m,l,g,i,d,hu,o,r⟩
 ·rw[g,i,cH,cK (by rw[cV];exact he)];rcases d with d|⟨f,l,m,d,r,rfl,_⟩
  ·rw[d,cH,cK (by rw[cV];exact he)];exact iD.no he rfl rfl rfl
  ·rw[d,cH,cI aaa,cK (by rw[cV];exact r)];exact iD.no he rfl rfl rfl
 ·obtain⟨x,y,rfl,v,hy⟩:=o.ty.M8 r (.inr rfl);have s:=o.sub (x:=x) aaB v;have t:=o.sub (x:=y) aaB hy;have E:=x.gm v.ok;have F:=s.agl;rw[g,i,d,cH,cH,cI aaa,cI aaa,cI aaB,eF];rcases C (n+3) (n'+3) VW VW p c h with⟨e,he,g,i,d⟩|⟨u,K,M,g,i,d,j,k⟩
  ·rw[g,i,d,cH,cH,cK (by rw[cV];exact he),cK (by rw[cV];exact he)];exact iD.no he rfl rfl rfl
  ·have w:=k.agl;have A:=u.gm k.ok;obtain⟨q,q1,G,H,_⟩:=hu.union j (by have:=hu.len;omega) (by have:=j.len;omega);obtain⟨I,J⟩:=Ic (a:=x) (b:=u) VW VW;rw[g,i,d,cH,cH,cI aaa,cI aaa,eF];simp only[Fm.cZ,dg,ed,gd,jF,cv,tc,I8];rw[q1,G,I,J,cv,cv,cv]
   by_cases hm:y' x u=0
   ·rw[fR hm,hm,cI aaa];exact iD.yes rfl rfl rfl H hy (by have:=t.agl;omega)
   ·rw[gG hm,cK (by rw[cV];exact hm)];exact iD.no hm rfl rfl rfl
def Us.has{l:List Int}{m:Nat}(h:Us l m):oE l=some (m.testBit 0)/\dw (pS .u32 (m:Int) 1) 0=m.testBit 0:=by
 have hm:=h.mem 0;constructor
 ·unfold oE;simp only[cN];cases l with
  |nil=>simp_all|cons a l=>
   rw[cK aaB];simp only[dg,gd,cv]
   congr 1
   rw[xi,dO,<-hm];constructor
   ·rintro rfl;simp
   ·intro hh;rcases iL.1 hh with hh|hh
    ·exact hh.symm
    ·cases h.X7 with
     |cons s1 _=>
      have:=s1 0 (by simpa using hh);have:=h.pos a aaB;omega
 ·rw[show(1:Int)=((1:Nat):Int)from rfl,E6 h.lt VW];rw[xi,cV,Nat.testBit_zero,ad5];simp only[kn];omega
def Tv(n:Nat)(c:cW)(s:Ty)(a:Pf):c0 (n+2) c (.mk 8 0 s [] [] [a])=hB (cG (di c 1 0) λk=>if(dw k 0) then some (eL,[],k)else cG (dV c [s]) λh=>cX (de n h a) λb d=>if(dw d 0) then some (eL,[],d)else cG (jA 4 s b.cR) λi=>cG (eR b.eX 1) λj=>some (i,j,0)) λe f g=>some (e,f,g):=by
 rw[c0];rw[mS];rfl
def Pw(n:Nat)(c:cW)(s:Ty)(a:Pf):c0 (n+2) c (.mk 12 0 s [] [] [a])=hB (cG (di c 1 0) λl=>if(dw l 0) then some (eL,[],l)else cG (dV c [s]) λh=>cX (de n h a) λb d=>if(dw d 0) then some (eL,[],d)else cG (oE b.eX) λi=>if i then some (eL,[],12)else cG (jA 6 s b.cR) λj=>cG (eR b.eX 1) λk=>some (j,k,0)) λe f g=>some (e,f,g):=by
 rw[c0];rw[mS];rfl
def DH(L:List Fm)(s:Ty)(a:Pf)(g:List Ty)(hs:List Fm):k5 L 8 0 s [] [] (Pf.oY L [a]) g hs=qR (16<g.length+1) 3 (pbind (a.inf L (g++[s]) (hs.map (Fm.up 0 1))) λb m=>.inl (.mk 4 s [] [b],m/2)):=rfl
def Dv(L:List Fm)(s:Ty)(a:Pf)(g:List Ty)(hs:List Fm):k5 L 12 0 s [] [] (Pf.oY L [a]) g hs=qR (16<g.length+1) 3 (pbind (a.inf L (g++[s]) (hs.map (Fm.up 0 1))) λb m=>qR (m.testBit 0=true) 12 (.inl (.mk 6 s [] [b],m/2))):=rfl
def T2(n:Nat)(L:List Fm)(s:Ty)(a:Pf)(p:cQ):lI (n+1) L (.mk 8 0 s [] [] [a]) p=cG (dk p.eB 1 0) λf=>if(dw f 0) then some (⟨eL,0⟩,f)else cG (ee p [s]) λd=>cX (dB n L a d) λb c=>if(dw c 0) then some (⟨eL,0⟩,c)else cG (dS b.eX 1) λe=>some (⟨.mk 4 s [] [b.cR],e⟩,0):=by
 show fS (n+1) L (.mk 8 0 s [] [] [a]) p=_;rw[fS];rfl
def Pt(n:Nat)(L:List Fm)(s:Ty)(a:Pf)(p:cQ):lI (n+1) L (.mk 12 0 s [] [] [a]) p=cG (dk p.eB 1 0) λf=>if(dw f 0) then some (⟨eL,0⟩,f)else cG (ee p [s]) λd=>cX (dB n L a d) λb c=>if(dw c 0) then some (⟨eL,0⟩,c)else if(dw (pS .u32 b.eX 1) 0) then some (⟨eL,0⟩,12)else cG (dS b.eX 1) λe=>some (⟨.mk 6 s [] [b.cR],e⟩,0):=by
 show fS (n+1) L (.mk 12 0 s [] [] [a]) p=_;rw[fS];rfl
def Jq{L:List Fm}{s:Ty}(hs:s.err=0){a:Pf}{N:Nat}(t:fX L a N):fX L (.mk 8 0 s [] [] [a]) (N+5):=by
 refine fX.of λn n' hn u p c h=>?_;rw[show n'+4=n'+2+2 from rfl,Tv,DH,T2];rcases h.room (v:=1) (k:=0) VW VW with⟨b,d,r,_⟩|⟨b,d,r⟩
 ·have b:dk p.eB 1 0=some 0:=b;have d:di c 1 0=some 0:=d;rw[b,d,cv,cv,cI nz,cI nz,iy VW];obtain⟨w,x,y,z,A,B,C⟩:=h.below hs r;rw[y,z,cv,cv];have hi:=t (n+3) (n'+2) VW VW w x A;rw[B,C] at hi;rcases hi with⟨e,he,g,i,j⟩|⟨f,m,l,g,i,j,hu,o⟩
  ·rw[g,i,j,cH,cH,cK (by rw[cV];exact he),cK (by rw[cV];exact he)];exact iD.no he rfl rfl rfl
  ·have D:=o.agl;have E:=f.gm o.ok;have F:=dE hs;obtain⟨u1,u2,u3⟩:=hu.out (by have:=hu.len;omega) (k:=1) VW;rw[g,i,j,cH,cH,cI nz,cI nz,eF];simp only[];rw[y9 VW VW,cv,show(1:Int)=((1:Nat):Int)from rfl,u1,u2];refine iD.yes rfl rfl rfl u3 (.q (.inl rfl) hs o.ty) ?_;rw[Fm.cJ];simp only[cU];omega
 ·have b:dk p.eB 1 0=some 3:=b;have d:di c 1 0=some 3:=d;have G:=h.pl.nh;rw[b,d,cv,cv,cK aaa,cK aaa,hZ VW];exact iD.no aaa rfl rfl rfl
def HB{L:List Fm}{s:Ty}(hs:s.err=0){a:Pf}{N:Nat}(u:fX L a N):fX L (.mk 12 0 s [] [] [a]) (N+5):=by
 refine fX.of λn n' hn w p c h=>?_;rw[show n'+4=n'+2+2 from rfl,Pw,Dv,Pt];rcases h.room (v:=1) (k:=0) VW VW with⟨b,d,t,_⟩|⟨b,d,t⟩
 ·have b:dk p.eB 1 0=some 0:=b;have d:di c 1 0=some 0:=d;rw[b,d,cv,cv,cI nz,cI nz,iy VW];obtain⟨x,y,z,A,B,C,D⟩:=h.below hs t;rw[z,A,cv,cv];have hi:=u (n+3) (n'+2) VW VW x y B;rw[C,D] at hi;rcases hi with⟨e,he,i,j,o⟩|⟨f,m,l,i,j,o,hu,r⟩
  ·rw[i,j,o,cH,cH,cK (by rw[cV];exact he),cK (by rw[cV];exact he)];exact iD.no he rfl rfl rfl
  ·have E:=r.agl;have F:=f.gm r.ok;have G:=dE hs;obtain⟨u1,u2,u3⟩:=hu.out (by have:=hu.len;omega) (k:=1) VW;obtain⟨H,I⟩:=hu.has;rw[i,j,o,cH,cH,cI nz,cI nz,eF];simp only[];rw[H,I,cv]
   by_cases g:m.testBit 0=true
   ·rw[hZ g,cK g,cK g];exact iD.no aaa rfl rfl rfl
   ·rw[iy g,cI g,cI g,y9 VW VW,cv,show(1:Int)=((1:Nat):Int)from rfl,u1,u2];refine iD.yes rfl rfl rfl u3 (.q (.inr (.inr (.inl rfl))) hs r.ty) ?_;rw[Fm.cJ];simp only[cU];omega
 ·have b:dk p.eB 1 0=some 3:=b;have d:di c 1 0=some 3:=d;have J:=h.pl.nh;rw[b,d,cv,cv,cK aaa,cK aaa,hZ VW];exact iD.no aaa rfl rfl rfl
theorem Hw(a b:Ty):a.jO b=b.jO a:=by grind[Ty.iV]
def lk{a b:Ty}(c:a.err=0)(d:b.err=0):gq (nI a) b=some (a.jO b)/\eh FU b a=some (a.jO b):=by
 have e:=dE c;have f:=dE d
 grind[gq,hU,cv,mA,fv,Hw]
def WT(n:Nat)(c:cW)(t:Tm)(a:Pf):c0 (n+2) c (.mk 9 0 .z [t] [] [a])=hB (cX (jz c.agn t) λp o=>if(dw o 0) then some (eL,[],o)else cX (de n c a) λb d=>if(dw d 0) then some (eL,[],d)else cG (jr t) λh=>cG (eY b.eX h) λi=>if(dw b.cR.agj 4) then some (eL,[],10)else cG (eh FU b.cR.cO p) λj=>if j then cG (df b.cR.agk 0) λk=>cX (iJ k t) λl m=>some (l,i,m)else some (eL,[],7)) λe f g=>some (e,f,g):=by
 rw[c0];rw[nV];rfl
def SD(n:Nat)(c:cW)(t:Tm)(a:Pf):c0 (n+2) c (.mk 13 0 .z [t] [] [a])=hB (cX (jz c.agn t) λo m=>if(dw m 0) then some (eL,[],m)else cX (de n c a) λb d=>if(dw d 0) then some (eL,[],d)else cG (jr t) λh=>cG (eY b.eX h) λp=>if(dw b.cR.agj 6) then some (eL,[],10)else cG (eh FU b.cR.cO o) λi=>if i then cG (df b.cR.agk 0) λj=>cX (iJ j t) λk l=>some (k,b.eX,l)else some (eL,[],7)) λe f g=>some (e,f,g):=by
 rw[c0];rw[nV];rfl
def WD(L:List Fm)(t:Tm)(a:Pf)(g:List Ty)(hs:List Fm):k5 L 9 0 .z [t] [] (Pf.oY L [a]) g hs=iN (t.ty g).2 (pbind (A4 (a.inf L g hs) 4) λa m=>qR ((t.ty g).1.jO a.cO=false) 7 (iN (kP (a.agk.getD 0 eL) t).2 (.inl ((kP (a.agk.getD 0 eL) t).1,m|||sO t)))):=rfl
def SO(L:List Fm)(t:Tm)(a:Pf)(g:List Ty)(hs:List Fm):k5 L 13 0 .z [t] [] (Pf.oY L [a]) g hs=iN (t.ty g).2 (pbind (A4 (a.inf L g hs) 6) λa m=>qR ((t.ty g).1.jO a.cO=false) 7 (iN (kP (a.agk.getD 0 eL) t).2 (.inl ((kP (a.agk.getD 0 eL) t).1,m)))):=rfl
def VZ(n:Nat)(L:List Fm)(t:Tm)(a:Pf)(p:cQ):lI (n+1) L (.mk 9 0 .z [t] [] [a]) p=cX (dx FU p.agn t) λj i=>if(dw i 0) then some (⟨eL,0⟩,i)else cG (iP t) λd=>cX (dA n L a p 4) λb c=>if(dw c 0) then some (⟨eL,0⟩,c)else cG (gq j b.cR.cO) λe=>if e then cG (df b.cR.agk 0) λf=>cX (gQ f t) λg h=>some (⟨g,vT .u32 b.eX d⟩,h)else some (⟨eL,0⟩,7):=by
 show fT (n+1) L (.mk 9 0 .z [t] [] [a]) p=_;rw[fT];rfl
def T5(n:Nat)(L:List Fm)(t:Tm)(a:Pf)(p:cQ):lI (n+1) L (.mk 13 0 .z [t] [] [a]) p=cX (dx FU p.agn t) λi h=>if(dw h 0) then some (⟨eL,0⟩,h)else cG (iP t) λj=>cX (dA n L a p 6) λb c=>if(dw c 0) then some (⟨eL,0⟩,c)else cG (gq i b.cR.cO) λd=>if d then cG (df b.cR.agk 0) λe=>cX (gQ e t) λf g=>some (⟨f,vT .u32 b.eX 0⟩,g)else some (⟨eL,0⟩,7):=by
 show fT (n+1) L (.mk 13 0 .z [t] [] [a]) p=_;rw[fT];rfl
def Fp{m:Nat}(h:m<4294967296):vT .u32 (m:Int) 0=(m:Int):=by
 rw[show(0:Int)=((0:Nat):Int)from rfl,Dx h VW,Nat.or_zero]
def tD{t:Tm}(a:t.err=0){g:List Ty}(b:gA g):(∃e,e≠0/\(t.ty g).2=e/\∃z,t.ty g=(z,e))\/∃s,t.ty g=(s,0)/\du g t s/\s.err=0:=by
 obtain⟨s,e,c⟩:∃s e,t.ty g=(s,e):=⟨_,_,rfl⟩
 by_cases he:e=0
 ·subst he;obtain⟨d,f⟩:=lX _ t (ig _) (Tm.eJ a).1 g b s c
  grind
 ·grind
def LR{L:List Fm}{t:Tm}(d:t.err=0){a:Pf}{N:Nat}(D:fX L a N):fX L (.mk 9 0 .z [t] [] [a]) (N+5):=by
 refine fX.of λn n' hn E p c h=>?_;have g:=h.pl.nv;rw[show n'+4=n'+2+2 from rfl,WT,WD,VZ,h.pl.agn,(jy h.pl.ctx g d).1,(jy h.pl.ctx g d).2];rcases tD d h.pl.ctx with⟨e,he,q1,z,F⟩|⟨s,q1,j,hs⟩
 ·rw[F,iz he,cH,cH,cK (by rw[cV];exact he),cK (by rw[cV];exact he),gG he];exact iD.no he rfl rfl rfl
 ·obtain⟨H,f1,f2,f3⟩:=rj g j d;rw[q1,ld,cH,cH,cI nz,cI nz,fR rfl,f1,cv];rcases jw (D (n+2) (n'+2) VW VW p c h) 4 with⟨e,he,o,r,i⟩|⟨f,m,l,o,r,i,hu,A,u⟩
  ·rw[o,r,cH,cK (by rw[cV];exact he)];rcases i with i|⟨f,l,m,i,u,rfl,hu⟩
   ·rw[i,cH,cK (by rw[cV];exact he)];exact iD.no he rfl rfl rfl
   ·obtain⟨q,u1,_⟩:=hu.union f3 (by have:=hu.len;omega) (by have:=f3.len;omega);rw[i,cH,cI nz,f2,cv,u1,cv,cK (by rw[cV];exact u)];exact iD.no he rfl rfl rfl
  ·obtain⟨B,x,rfl,k,C⟩:=A.ty.yT u (.inl rfl);have v:=A.sub (x:=x) aaB C;obtain⟨q,u1,u2,u3,_⟩:=hu.union f3 (by have:=hu.len;omega) (by have:=f3.len;omega);rw[o,r,i,cH,cH,cI nz,cI nz,f2,cv,eF];simp only[Fm.da,Fm.dv,Fm.cZ,dg,gd,cv,tc];rw[u1,u2,cv,cI (show¬dw 4 4=true by decide),(lk hs k).1,(lk hs k).2,cv,cv]
   by_cases b:s.jO B=true
   ·have:=(Ty.iV s B).1 b;subst this;have w:nx c.agn x t:=⟨v.err,d,s,C,j⟩;rw[iy (by rw[b];decide),cK b,cK b,(w.both VW).1,(w.both VW).2];rcases ma x t with y|⟨G,y⟩
    ·rw[y,cH,cH,gG aaa];exact iD.no aaa rfl rfl rfl
    ·rw[y,cH,cH,fR rfl];exact iD.yes (f:=Fm.j3 0 x t) rfl rfl rfl u3 w.put VW
   ·rw[hZ (by simpa using b),cI b,cI b];exact iD.no aaa rfl rfl rfl
def Jw{L:List Fm}{t:Tm}(d:t.err=0){a:Pf}{N:Nat}(D:fX L a N):fX L (.mk 13 0 .z [t] [] [a]) (N+5):=by
 refine fX.of λn n' hn E p c h=>?_;have g:=h.pl.nv;rw[show n'+4=n'+2+2 from rfl,SD,SO,T5,h.pl.agn,(jy h.pl.ctx g d).1,(jy h.pl.ctx g d).2];rcases tD d h.pl.ctx with⟨e,he,q1,z,F⟩|⟨s,q1,j,hs⟩
 ·rw[F,iz he,cH,cH,cK (by rw[cV];exact he),cK (by rw[cV];exact he),gG he];exact iD.no he rfl rfl rfl
 ·obtain⟨H,f1,f2,f3⟩:=rj g j d;rw[q1,ld,cH,cH,cI nz,cI nz,fR rfl,f1,cv];rcases jw (D (n+2) (n'+2) VW VW p c h) 6 with⟨e,he,o,r,i⟩|⟨f,m,l,o,r,i,hu,A,u⟩
  ·rw[o,r,cH,cK (by rw[cV];exact he)];rcases i with i|⟨f,l,m,i,u,rfl,hu⟩
   ·rw[i,cH,cK (by rw[cV];exact he)];exact iD.no he rfl rfl rfl
   ·obtain⟨q,u1,_⟩:=hu.union f3 (by have:=hu.len;omega) (by have:=f3.len;omega);rw[i,cH,cI nz,f2,cv,u1,cv,cK (by rw[cV];exact u)];exact iD.no he rfl rfl rfl
  ·obtain⟨B,x,rfl,k,C⟩:=A.ty.yT u (.inr (.inr (.inl rfl)));have v:=A.sub (x:=x) aaB C;obtain⟨q,u1,_⟩:=hu.union f3 (by have:=hu.len;omega) (by have:=f3.len;omega);rw[o,r,i,cH,cH,cI nz,cI nz,f2,cv,eF];simp only[Fm.da,Fm.dv,Fm.cZ,dg,gd,cv,tc];rw[u1,Fp hu.lt,cv,cI (show¬dw 6 6=true by decide),(lk hs k).1,(lk hs k).2,cv,cv]
   by_cases b:s.jO B=true
   ·have:=(Ty.iV s B).1 b;subst this;have w:nx c.agn x t:=⟨v.err,d,s,C,j⟩;rw[iy (by rw[b];decide),cK b,cK b,(w.both VW).1,(w.both VW).2];rcases ma x t with y|⟨G,y⟩
    ·rw[y,cH,cH,gG aaa];exact iD.no aaa rfl rfl rfl
    ·rw[y,cH,cH,fR rfl];exact iD.yes (f:=Fm.j3 0 x t) rfl rfl rfl hu w.put VW
   ·rw[hZ (by simpa using b),cI b,cI b];exact iD.no aaa rfl rfl rfl
def Sp(n:Nat)(c:cW)(t:Tm)(F:Fm)(a:Pf):c0 (n+2) c (.mk 10 0 .z [t] [F] [a])=hB (cG (jh c.agn F) λb=>if(dw b 0) then some (eL,[],b)else if(dw F.agj 5) then some (eL,[],10)else cX (jz c.agn t) λh d=>if(dw d 0) then some (eL,[],d)else cG (eh FU F.cO h) λi=>if i then cG (df F.agk 0) λj=>cX (dQ n c a j t) λk l=>cG (jr t) λm=>cG (eY k m) λo=>some (F,o,l)else some (eL,[],7)) λe f g=>some (e,f,g):=by
 rw[c0];rw[nQ];rfl
def Uf(n:Nat)(c:cW)(t:Tm)(F:Fm)(a:Pf):c0 (n+2) c (.mk 14 0 .z [t] [F] [a])=hB (cG (jh c.agn F) λb=>if(dw b 0) then some (eL,[],b)else if(dw F.agj 7) then some (eL,[],10)else cX (jz c.agn t) λh d=>if(dw d 0) then some (eL,[],d)else cG (eh FU F.cO h) λi=>if i then cG (df F.agk 0) λj=>cX (dQ n c a j t) λk l=>some (F,k,l)else some (eL,[],7)) λe f g=>some (e,f,g):=by
 rw[c0];rw[nQ];rfl
def S7(L:List Fm)(t:Tm)(F:Fm)(a:Pf)(g:List Ty)(hs:List Fm):k5 L 10 0 .z [t] [F] (Pf.oY L [a]) g hs=iN (F.qd g) (qR (F.agj≠5) 10 (iN (t.ty g).2 (qR ((t.ty g).1.jO F.cO=false) 7 (pbind (Dm (a.inf L g hs) (F.agk.getD 0 eL) t) λ_ m=>.inl (F,m|||sO t))))):=rfl
def SG(L:List Fm)(t:Tm)(F:Fm)(a:Pf)(g:List Ty)(hs:List Fm):k5 L 14 0 .z [t] [F] (Pf.oY L [a]) g hs=iN (F.qd g) (qR (F.agj≠7) 10 (iN (t.ty g).2 (qR ((t.ty g).1.jO F.cO=false) 7 (pbind (Dm (a.inf L g hs) (F.agk.getD 0 eL) t) λ_ m=>.inl (F,m))))):=rfl
def SH(n:Nat)(L:List Fm)(t:Tm)(F:Fm)(a:Pf)(p:cQ):lI (n+1) L (.mk 10 0 .z [t] [F] [a]) p=cG (dy FU p.agn F) λc=>if(dw c 0) then some (⟨eL,0⟩,c)else if(dw F.agj 5) then some (⟨eL,0⟩,10)else cX (dx FU p.agn t) λh d=>if(dw d 0) then some (⟨eL,0⟩,d)else cG (gq h F.cO) λi=>if i then cG (df F.agk 0) λe=>cX (dD n L a p e t) λf b=>if(dw b 0) then some (⟨eL,0⟩,b)else cG (iP t) λg=>some (⟨F,vT .u32 f.eX g⟩,0)else some (⟨eL,0⟩,7):=by
 show gk (n+1) L (.mk 10 0 .z [t] [F] [a]) p=_;rw[gk];rfl
def Sw(n:Nat)(L:List Fm)(t:Tm)(F:Fm)(a:Pf)(p:cQ):lI (n+1) L (.mk 14 0 .z [t] [F] [a]) p=cG (dy FU p.agn F) λc=>if(dw c 0) then some (⟨eL,0⟩,c)else if(dw F.agj 7) then some (⟨eL,0⟩,10)else cX (dx FU p.agn t) λg d=>if(dw d 0) then some (⟨eL,0⟩,d)else cG (gq g F.cO) λh=>if h then cG (df F.agk 0) λe=>cX (dD n L a p e t) λf b=>if(dw b 0) then some (⟨eL,0⟩,b)else some (⟨F,vT .u32 f.eX 0⟩,0)else some (⟨eL,0⟩,7):=by
 show gk (n+1) L (.mk 14 0 .z [t] [F] [a]) p=_;rw[gk];rfl
def Js{L:List Fm}{t:Tm}(d:t.err=0){F:Fm}(hF:F.err=0){a:Pf}{N:Nat}(E:fX L a N):fX L (.mk 10 0 .z [t] [F] [a]) (N+5):=by
 refine fX.of λn n' hn G p c h=>?_;have g:=h.pl.nv;obtain⟨t1,_,t2⟩:=nT h.pl.ctx VW hF;have H:=(Fm.eJ hF).2;rw[show n'+4=n'+2+2 from rfl,Sp,S7,SH,h.pl.agn,(jy h.pl.ctx g d).1,(jy h.pl.ctx g d).2,t1,t2 g,cv,cv]
 by_cases j:F.qd c.agn=0
 ·have o:¬dw (F.qd c.agn) 0=true:=by rw[cV];simpa using j
  rw[cI o,cI o,fR j];have i:=nS F (Fm.eJ hF).1 c.agn h.pl.ctx j
  by_cases k:F.agj=5
  ·have o:¬dw F.agj 5=true:=by rw[cV];simpa using k
   rw[cI o,cI o,iy (by simpa using k)];rcases tD d h.pl.ctx with⟨e,he,q1,z,I⟩|⟨s,q1,r,hs⟩
   ·rw[I,iz he,cH,cH,cK (by rw[cV];exact he),cK (by rw[cV];exact he),gG he];exact iD.no he rfl rfl rfl
   ·obtain⟨v,x,rfl,u,D⟩:=i.yT k (.inr (.inl rfl));have w:Hg c.agn (.mk 5 v [] [x]):=⟨hF,i⟩;have y:=w.sub (x:=x) aaB D;obtain⟨K,f1,f2,f3⟩:=rj g r d;rw[q1,ld,cH,cH,cI nz,cI nz,fR rfl];simp only[Fm.da,Fm.dv,Fm.cZ,dg,gd,cv,tc];rw[(lk hs u).1,(lk hs u).2,cv,cv]
    by_cases b:s.jO v=true
    ·have:=(Ty.iV s v).1 b;subst this;have J:nx c.agn x t:=⟨y.err,d,s,D,r⟩;rw[iy (by rw[b];decide),cK b,cK b];rcases nO g (E (n+2) (n'+1) VW VW p c h) J with⟨e,z,l,m,he,A,B,C,hu⟩|⟨f,m,l,A,B,C,hu⟩
     ·obtain⟨q,u1,_⟩:=hu.union f3 (by have:=hu.len;omega) (by have:=f3.len;omega);rw[A,B,C,cH,cH,cK (by rw[cV];exact he),f2,cv,u1];exact iD.no he rfl rfl rfl
     ·obtain⟨q,u1,u2,u3,_⟩:=hu.union f3 (by have:=hu.len;omega) (by have:=f3.len;omega);rw[A,B,C,cH,cH,cI nz,f1,f2,cv,cv,eF];simp only[];rw[u1,u2];exact iD.yes rfl rfl rfl u3 i VW
    ·rw[hZ (by simpa using b),cI b,cI b];exact iD.no aaa rfl rfl rfl
  ·rw[cK (by rw[cV];exact k),cK (by rw[cV];exact k),hZ k];exact iD.no aaa rfl rfl rfl
 ·rw[cK (by rw[cV];exact j),cK (by rw[cV];exact j),gG j];exact iD.no j rfl rfl rfl
def JR{L:List Fm}{t:Tm}(g:t.err=0){F:Fm}(hF:F.err=0){a:Pf}{N:Nat}(D:fX L a N):fX L (.mk 14 0 .z [t] [F] [a]) (N+5):=by
 refine fX.of λn n' hn E p c h=>?_;have i:=h.pl.nv;obtain⟨t1,_,t2⟩:=nT h.pl.ctx VW hF;have G:=(Fm.eJ hF).2;rw[show n'+4=n'+2+2 from rfl,Uf,SG,Sw,h.pl.agn,(jy h.pl.ctx i g).1,(jy h.pl.ctx i g).2,t1,t2 i,cv,cv]
 by_cases j:F.qd c.agn=0
 ·have o:¬dw (F.qd c.agn) 0=true:=by rw[cV];simpa using j
  rw[cI o,cI o,fR j];have d:=nS F (Fm.eJ hF).1 c.agn h.pl.ctx j
  by_cases k:F.agj=7
  ·have o:¬dw F.agj 7=true:=by rw[cV];simpa using k
   rw[cI o,cI o,iy (by simpa using k)];rcases tD g h.pl.ctx with⟨e,he,q1,z,H⟩|⟨s,q1,r,hs⟩
   ·rw[H,iz he,cH,cH,cK (by rw[cV];exact he),cK (by rw[cV];exact he),gG he];exact iD.no he rfl rfl rfl
   ·obtain⟨u,x,rfl,q,C⟩:=d.yT k (.inr (.inr (.inr rfl)));have v:Hg c.agn (.mk 7 u [] [x]):=⟨hF,d⟩;have w:=v.sub (x:=x) aaB C;rw[q1,ld,cH,cH,cI nz,cI nz,fR rfl];simp only[Fm.da,Fm.dv,Fm.cZ,dg,gd,cv,tc];rw[(lk hs q).1,(lk hs q).2,cv,cv]
    by_cases b:s.jO u=true
    ·have:=(Ty.iV s u).1 b;subst this;have I:nx c.agn x t:=⟨w.err,g,s,C,r⟩;rw[iy (by rw[b];decide),cK b,cK b];rcases nO i (D (n+2) (n'+1) VW VW p c h) I with⟨e,z,l,m,he,y,A,B,hu⟩|⟨f,m,l,y,A,B,hu⟩
     ·rw[y,A,B,cH,cH,cK (by rw[cV];exact he)];exact iD.no he rfl rfl rfl
     ·rw[y,A,B,cH,cH,cI nz,eF];simp only[];rw[Fp hu.lt];exact iD.yes rfl rfl rfl hu d VW
    ·rw[hZ (by simpa using b),cI b,cI b];exact iD.no aaa rfl rfl rfl
  ·rw[cK (by rw[cV];exact k),cK (by rw[cV];exact k),hZ k];exact iD.no aaa rfl rfl rfl
 ·rw[cK (by rw[cV];exact j),cK (by rw[cV];exact j),gG j];exact iD.no j rfl rfl rfl
def IE(k:Fm->Option (Fm×List Int×Int))(f:Fm):Option (Fm×List Int×Int):=
 cG (py FU f 0) λc=>if c then cX (l0 FU f) λa b=>if(dw b 0) then some (eL,[],b)else cG (py FU a 0) λd=>if d then some (eL,[],6)else k (.mk a.agj (.mk a.cO.agj a.cO.agk) a.dc a.agk)else k (.mk f.agj (.mk f.cO.agj f.cO.agk) f.dc f.agk)
def L6(n:Nat)(c:cW)(a b:Pf):c0 (n+2) c (.mk 11 0 .z [] [] [a,b])=hB (cX (de n c a) λd e=>if(dw e 0) then some (eL,[],e)else if(dw d.cR.agj 5) then some (eL,[],10)else cG (di c 1 1) λg=>if(dw g 0) then some (eL,[],g)else cG (dV c [d.cR.cO]) λq=>cG (df d.cR.agk 0) λr=>cG (eT q r) λs=>cX (de n s b) λh i=>if(dw i 0) then some (eL,[],i)else IE (λf=>cG (fq FU f 1 (-1)) λj=>cG (eR h.eX 1) λk=>cG (eY d.eX k) λl=>some (j,l,0)) h.cR) λm o p=>some (m,o,p):=by
 rw[c0];rw[mc];rfl
def MT(n:Nat)(c:cW)(a b:Pf):c0 (n+2) c (.mk 15 0 .z [] [] [a,b])=hB (cX (de n c a) λd g=>if(dw g 0) then some (eL,[],g)else if(dw d.cR.agj 7) then some (eL,[],10)else cG (di c 1 1) λh=>if(dw h 0) then some (eL,[],h)else cG (dV c [d.cR.cO]) λr=>cG (df d.cR.agk 0) λs=>cG (eT r s) λt=>cX (de n t b) λe i=>if(dw i 0) then some (eL,[],i)else IE (λf=>cG (oE e.eX) λj=>if j then some (eL,[],12)else cG (fq FU f 1 (-1)) λk=>cG (eR e.eX 1) λl=>cG (eY d.eX l) λm=>some (k,m,0)) e.cR) λo p q=>some (o,p,q):=by
 rw[c0];rw[mc];rfl
def NA(L:List Fm)(a b:Pf)(g:List Ty)(hs:List Fm):k5 L 11 0 .z [] [] (Pf.oY L [a,b]) g hs=pbind (A4 (a.inf L g hs) 5) λa m=>qR (16<g.length+1\/16<hs.length+1) 3 (pbind (b.inf L (g++[a.cO]) (hs.map (Fm.up 0 1)++[a.agk.getD 0 eL])) λb n=>iN (zX b).2 (.inl ((zX b).1,m|||n/2))):=rfl
def MY(L:List Fm)(a b:Pf)(g:List Ty)(hs:List Fm):k5 L 15 0 .z [] [] (Pf.oY L [a,b]) g hs=pbind (A4 (a.inf L g hs) 7) λa m=>qR (16<g.length+1\/16<hs.length+1) 3 (pbind (b.inf L (g++[a.cO]) (hs.map (Fm.up 0 1)++[a.agk.getD 0 eL])) λb n=>iN (zX b).2 (qR (n.testBit 0=true) 12 (.inl ((zX b).1,m|||n/2)))):=rfl
def Mv(n:Nat)(L:List Fm)(a b:Pf)(p:cQ):lI (n+1) L (.mk 11 0 .z [] [] [a,b]) p=cX (dA n L a p 5) λc d=>if(dw d 0) then some (⟨eL,0⟩,d)else cG (dk p.eB 1 1) λe=>if(dw e 0) then some (⟨eL,0⟩,e)else cG (ee p [c.cR.cO]) λi=>cG (df c.cR.agk 0) λj=>cG (ep i j) λk=>cX (dB n L b k) λf g=>if(dw g 0) then some (⟨eL,0⟩,g)else cX (la f.cR) λl h=>if(dw h 0) then some (⟨eL,0⟩,h)else cG (dS f.eX 1) λm=>some (⟨l,vT .u32 c.eX m⟩,0):=by
 show gh (n+1) L (.mk 11 0 .z [] [] [a,b]) p=_;rw[gh];rfl
def L'(n:Nat)(L:List Fm)(a b:Pf)(p:cQ):lI (n+1) L (.mk 15 0 .z [] [] [a,b]) p=cX (dA n L a p 7) λc e=>if(dw e 0) then some (⟨eL,0⟩,e)else cG (dk p.eB 1 1) λf=>if(dw f 0) then some (⟨eL,0⟩,f)else cG (ee p [c.cR.cO]) λi=>cG (df c.cR.agk 0) λj=>cG (ep i j) λk=>cX (dB n L b k) λd g=>if(dw g 0) then some (⟨eL,0⟩,g)else cX (la d.cR) λl h=>if(dw h 0) then some (⟨eL,0⟩,h)else if(dw (pS .u32 d.eX 1) 0) then some (⟨eL,0⟩,12)else cG (dS d.eX 1) λm=>some (⟨l,vT .u32 c.eX m⟩,0):=by
 show gh (n+1) L (.mk 15 0 .z [] [] [a,b]) p=_;rw[gh];rfl
def Ff{g:List Ty}{s:Ty}{f:Fm}(h:Hg (g++[s]) f)(hg:g.length<=1000)(k:Fm->Option (Fm×List Int×Int))(k':Fm->Option (Fm×List Int×Int))(j:∀x,x.agr 0=0->x.agl<=4096*4096->x.agp 1000000000000=true->k x=k' (x.up 1 (-1))):IE k f=if(zX f).2=0 then k' (zX f).1 else some (eL,[],(zX f).2):=by
 have hn:=h.agl;have m:f.agp 1000000000000=true:=h.ty.agp _ aaP;unfold IE;rw[wu FU f 0 (by rw[dp];omega) VW VW VW,cv,Ty.kf,Fm.kf]
 by_cases i:f.agr 0=0
 ·have hw:zX f=(f.up 1 (-1),0):=by unfold zX;rw[cK i]
  grind
 ·rw[cK (show decide (0<f.agr 0)=true by simp;omega),za FU f (by rw[dp];omega) VW (Pp.of f hn h.ok (h.ty.agp _ aaP))];obtain⟨a,b,d⟩:∃a b,f.rP 0=(a,b):=⟨_,_,rfl⟩
  have hw:zX f=if b≠0 then(eL,b)else if a.agr 0≠0 then(eL,6)else(a.up 1 (-1),0):=by unfold zX;rw[cI i,d]
  rw[d];simp only[]
  by_cases he:b=0
  ·subst he;have c:=Hk h.ty 0 aaP hn (by rw[d]);rw[d] at c;obtain⟨_,a2,a3⟩:=c;have a2:hD (g++[s]) a:=a2;have a3:a.agl<=3000*f.agl:=a3;rw[cI aaa] at hw;rw[cK rfl,cH,cI nz,wu FU a 0 (by rw[dp];omega) VW VW VW,cv,Ty.kf,Fm.kf]
   by_cases e:a.agr 0=0
   ·rw[cI (by simpa using e)] at hw;rw[hw,cI (show¬(decide (0<a.agr 0)=true) by simp;omega)];exact(j a e VW (a2.agp _ aaP)).trans (cK rfl).symm
   ·rw[cK e] at hw;rw[hw,cK (show decide (0<a.agr 0)=true by simp;omega)];rfl
  ·rw[cK he] at hw
   have l:dw b 0=true:=by rw[cV];exact he
   rw[hw,cI he,cH,cK l,cI he]
def Er{L:List Fm}{a b:Pf}{N:Nat}(I:fX L a N)(J:fX L b N):fX L (.mk 11 0 .z [] [] [a,b]) (N+5):=by
 refine fX.of λn n' hn K p c h=>?_;have M:=h.pl.nv;rw[show n'+4=n'+2+2 from rfl,L6,NA,Mv];rcases jw (I (n+2) (n'+2) VW VW p c h) 5 with⟨e,he,g,i,d⟩|⟨f,m,l,g,i,d,hu,C,A⟩
 ·rw[g,i,cH,cK (by rw[cV];exact he)];rcases d with d|⟨f,l,m,d,A,rfl,_⟩
  ·rw[d,cH,cK (by rw[cV];exact he)];exact iD.no he rfl rfl rfl
  ·rw[d,cH,cI nz,cK (by rw[cV];exact A)];exact iD.no he rfl rfl rfl
 ·obtain⟨s,x,rfl,hs,O⟩:=C.ty.yT A (.inr (.inl rfl));have B:=C.sub (x:=x) aaB O;rw[g,i,d,cH,cH,cI nz,cI nz,cI aaB,eF];simp only[Fm.dv,Fm.cZ,dg,gd,cv,tc];rcases h.room (v:=1) (k:=1) VW VW with⟨j,o,D,P⟩|⟨j,o,D⟩
  ·have j:dk p.eB 1 1=some 0:=j;have o:di c 1 1=some 0:=o;rw[j,o,cv,cv,cI nz,cI nz,iy VW];obtain⟨p1,c1,Q,R,S,E,F⟩:=h.below hs D;obtain⟨T,U,V,W,X,Y,Z⟩:=S.with (f:=x) (by rw[E];exact B) (by rw[F];simpa using P);rw[Q,R,cv,cv,V,W,cv,cv];have hi:=J (n+3) (n'+2) VW VW T U X;rw[Y,Z,E,F] at hi;rcases hi with⟨e,he,g,i,d⟩|⟨f',G,H,g,i,d,u,r⟩
   ·rw[g,i,d,cH,cH,cK (by rw[cV];exact he),cK (by rw[cV];exact he)];exact iD.no he rfl rfl rfl
   ·obtain⟨u1,u2,u3⟩:=u.out (by have:=u.len;omega) (k:=1) VW;have u1:eR H 1=some (rM ((1:Nat):Int) H):=u1;have u2:dS (G:Int) 1=some ((G/2^1:Nat):Int):=u2;obtain⟨q,v1,v2,v3,_⟩:=hu.union u3 (by have:=hu.len;omega) (by have:=u3.len;omega);rw[g,i,d,cH,cH,cI nz,cI nz,eF];simp only[];rw[qF r VW]
    rw[Ff r VW _ (λy=>some (y,q,0)) (λy y1 y2 y3=>by
     rw[wz FU y 1 (by rw[dp];omega) VW VW VW y3,cv,u1,cv,v1,cv])]
    obtain⟨w,e,hw⟩:∃w e,zX f'=(w,e):=⟨_,_,rfl⟩;rw[hw,cH]
    by_cases he:e=0
    ·subst he;have t:=Nr r VW hs (by rw[hw]);rw[hw] at t;rw[cI nz,cK rfl,fR rfl,u2,cv,v2];exact iD.yes rfl rfl rfl v3 t.1 (by have:=t.2;omega)
    ·rw[cK (by rw[cV];exact he),cI he,gG he];exact iD.no he rfl rfl rfl
  ·have j:dk p.eB 1 1=some 3:=j;have o:di c 1 1=some 3:=o;rw[j,o,cv,cv,cK aaa,cK aaa,hZ VW];exact iD.no aaa rfl rfl rfl
def Fi{L:List Fm}{a b:Pf}{N:Nat}(M:fX L a N)(g:fX L b N):fX L (.mk 15 0 .z [] [] [a,b]) (N+5):=by
 refine fX.of λn n' hn O p c h=>?_;have P:=h.pl.nv;rw[show n'+4=n'+2+2 from rfl,MT,MY,L'];rcases jw (M (n+2) (n'+2) VW VW p c h) 7 with⟨e,he,i,j,d⟩|⟨f,m,l,i,j,d,hu,F,C⟩
 ·rw[i,j,cH,cK (by rw[cV];exact he)];rcases d with d|⟨f,l,m,d,C,rfl,_⟩
  ·rw[d,cH,cK (by rw[cV];exact he)];exact iD.no he rfl rfl rfl
  ·rw[d,cH,cI nz,cK (by rw[cV];exact C)];exact iD.no he rfl rfl rfl
 ·obtain⟨s,x,rfl,hs,Q⟩:=F.ty.yT C (.inr (.inr (.inr rfl)));have D:=F.sub (x:=x) aaB Q;rw[i,j,d,cH,cH,cI nz,cI nz,cI aaB,eF];simp only[Fm.dv,Fm.cZ,dg,gd,cv,tc];rcases h.room (v:=1) (k:=1) VW VW with⟨o,r,G,R⟩|⟨o,r,G⟩
  ·have o:dk p.eB 1 1=some 0:=o;have r:di c 1 1=some 0:=r;rw[o,r,cv,cv,cI nz,cI nz,iy VW];obtain⟨p1,H,S,T,U,I,J⟩:=h.below hs G;obtain⟨V,E,W,X,Y,Z,b5⟩:=U.with (f:=x) (by rw[I];exact D) (by rw[J];simpa using R);rw[S,T,cv,cv,W,X,cv,cv];have hi:=g (n+3) (n'+2) VW VW V E Y;rw[Z,b5,I,J] at hi;rcases hi with⟨e,he,i,j,d⟩|⟨f',B,K,i,j,d,t,u⟩
   ·rw[i,j,d,cH,cH,cK (by rw[cV];exact he),cK (by rw[cV];exact he)];exact iD.no he rfl rfl rfl
   ·obtain⟨u1,u2,u3⟩:=t.out (by have:=t.len;omega) (k:=1) VW;have u1:eR K 1=some (rM ((1:Nat):Int) K):=u1;have u2:dS (B:Int) 1=some ((B/2^1:Nat):Int):=u2;obtain⟨q,v1,v2,v3,_⟩:=hu.union u3 (by have:=hu.len;omega) (by have:=u3.len;omega);rw[i,j,d,cH,cH,cI nz,cI nz,eF];simp only[];rw[qF u VW];obtain⟨H,E⟩:=t.has
    rw[Ff u VW _ (λy=>if B.testBit 0 then some (eL,[],12)else some (y,q,0)) (λy y1 y2 y3=>by
     rw[H,cv,wz FU y 1 (by rw[dp];omega) VW VW VW y3,cv,u1,cv,v1,cv])]
    obtain⟨w,e,hw⟩:∃w e,zX f'=(w,e):=⟨_,_,rfl⟩;rw[hw,cH]
    by_cases he:e=0
    ·subst he;have A:=Nr u VW hs (by rw[hw]);rw[hw] at A;rw[cI nz,cK rfl,fR rfl,E]
     by_cases g:B.testBit 0=true
     ·rw[hZ g,cK g,cK g];exact iD.no aaa rfl rfl rfl
     ·rw[iy g,cI g,cI g,u2,cv,v2];exact iD.yes rfl rfl rfl v3 A.1 (by have:=A.2;omega)
    ·rw[cK (by rw[cV];exact he),cI he,gG he];exact iD.no he rfl rfl rfl
  ·have o:dk p.eB 1 1=some 3:=o;have r:di c 1 1=some 3:=r;rw[o,r,cv,cv,cK aaa,cK aaa,hZ VW];exact iD.no aaa rfl rfl rfl
def gA.nat{g:List Ty}(h:gA g):gA (g++[.nat]):=h.app Ty.ew
def gA.k1{g:List Ty}(h:gA g):gA (g++[.k1]):=h.app Ty.kT
def CH{g:List Ty}(d:gA g){t:Tm}(f:t.err=0){s:Ty}(hs:s=.nat\/s=.k1)(h:kO t g s.agj=0):du g t s:=by
 rcases tD f d with⟨e,he,q1,z,j⟩|⟨b,q1,i,a⟩
 ·unfold kO at h
  grind
 ·unfold kO at h;rw[q1] at h
  by_cases c:b.agj=s.agj
  ·have:b=s:=by
    rcases hs with rfl|rfl
    ·exact(pZ a).1 c
    ·exact(wP a).1 c
   rwa [<-this]
  ·grind
def o0{F:Fm}(hF:F.err=0)(a:F.agp 1000000000=true){f c:Nat}(b:f<=100)(d:c<=100):dU F (f:Int) (c:Int)=some (F.up f c)/\fq FU F (f:Int) (c:Int)=some (F.up f c):=by
 obtain⟨a1,a2⟩:=Fm.eJ hF;exact⟨lJ a1 VW (Fm.iM _ VW a) VW VW VW VW,nd FU F f c (by rw[dp];omega) VW VW VW VW VW (Fm.iM _ VW a)⟩
def CL{F:Fm}(hF:F.err=0){f c:Int}(a:0<=f)(b:0<=c):(F.up f c).err=0:=by grind[Fm.eJ,Fm.err,Fm.Cb,Fm.lO]
def sj{F:Fm}{f:Int}:F.up f 0=F:=Fm.Ew F f
def Xc:mb.err=0:=aaa
def Pv:(Tm.mk 7 0 .z []).err=0:=aaa
def Sv:(gu v0).err=0:=aaa
def TB:(Tm.mk 8 0 .z [v1,v0]).err=0:=aaa
def Ke{L:List Fm}{p:cQ}{c:cW}(h:PG L p c)(hn:c.agn.length+2<=16):∃b a,ee p [.nat,.k1]=some b/\dV c [.nat,.k1]=some a/\PG L b a/\a.agn=c.agn++[.nat]++[.k1]/\a.agq=c.agq.map (Fm.up 0 2):=by
 obtain⟨b,a,d,e,f,g,i⟩:=h.NJ (l:=[.nat,.k1]) (λx hx=>by
  rcases iL.1 hx with rfl|hx
  ·exact Ty.ew
  ·rw[uR.1 hx];exact Ty.kT) hn
 grind
def Qc(n:Nat)(c:cW)(t:Tm)(F:Fm)(a b:Pf):c0 (n+2) c (.mk 16 0 .z [t] [F] [a,b])=hB (fY (eM c.agn [.nat])<|cG (jP (eV c.agn [.nat]) F) λe=>if(dw e 0) then some (eL,[],e)else cG (gi c t 1) λf=>if(dw f 0) then some (eL,[],f)else cG (eQ 4 []) λy=>cX (dQ n c a F y) λA g=>if(dw g 0) then some (eL,[],g)else cG (di c 1 1) λh=>if(dw h 0) then some (eL,[],h)else cG (dV c [.nat]) λi=>cG (eT i F) λj=>cG (fq FU F 1 1) λk=>cG (eQ 5 [v0]) λl=>cX (dQ n j b k l) λm d=>if(dw d 0) then some (eL,[],d)else cX (iJ F t) λo p=>cG (jr t) λq=>cG (eY q A) λr=>cG (eR m 1) λs=>cG (eY r s) λu=>some (o,u,p)) λv w x=>some (v,w,x):=by
 rw[c0];rw[qq];rfl
def PH(n:Nat)(c:cW)(t:Tm)(F:Fm)(a b:Pf):c0 (n+2) c (.mk 17 0 .z [t] [F] [a,b])=hB (fY (eM c.agn [.k1])<|cG (jP (eV c.agn [.k1]) F) λe=>if(dw e 0) then some (eL,[],e)else cG (gi c t 2) λf=>if(dw f 0) then some (eL,[],f)else cG (eQ 7 []) λA=>cX (dQ n c a F A) λB g=>if(dw g 0) then some (eL,[],g)else cG (di c 2 1) λh=>if(dw h 0) then some (eL,[],h)else cG (dV c [.nat,.k1]) λi=>cG (fq FU F 1 1) λj=>cG (eT i j) λk=>cG (fq FU F 1 2) λl=>cG (eQ 8 [v1,v0]) λm=>cX (dQ n k b l m) λo d=>if(dw d 0) then some (eL,[],d)else cX (iJ F t) λp q=>cG (jr t) λr=>cG (eY r B) λs=>cG (eR o 2) λu=>cG (eY s u) λv=>some (p,v,q)) λw x y=>some (w,x,y):=by
 rw[c0];rw[oO];rfl
def Qo(L:List Fm)(t:Tm)(F:Fm)(a b:Pf)(g:List Ty)(hs:List Fm):k5 L 16 0 .z [t] [F] (Pf.oY L [a,b]) g hs=iN (F.qd (g++[.nat])) (iN (kO t g 1) (pbind (Dm (a.inf L g hs) F mb) λ_ m=>qR (16<g.length+1\/16<hs.length+1) 3 (pbind (Dm (b.inf L (g++[.nat]) (hs.map (Fm.up 0 1)++[F])) (F.up 1 1) (gu v0)) λ_ n=>iN (kP F t).2 (.inl ((kP F t).1,(sO t|||m)|||n/2))))):=rfl
def P1(L:List Fm)(t:Tm)(F:Fm)(a b:Pf)(g:List Ty)(hs:List Fm):k5 L 17 0 .z [t] [F] (Pf.oY L [a,b]) g hs=iN (F.qd (g++[.k1])) (iN (kO t g 2) (pbind (Dm (a.inf L g hs) F (.mk 7 0 .z [])) λ_ m=>qR (16<g.length+2\/16<hs.length+1) 3 (pbind (Dm (b.inf L (g++[.nat]++[.k1]) (hs.map (Fm.up 0 2)++[F.up 1 1])) (F.up 1 2) (.mk 8 0 .z [v1,v0])) λ_ n=>iN (kP F t).2 (.inl ((kP F t).1,(sO t|||m)|||n/4))))):=rfl
def PW(n:Nat)(L:List Fm)(t:Tm)(F:Fm)(a b:Pf)(p:cQ):lI (n+1) L (.mk 16 0 .z [t] [F] [a,b]) p=cG (eZ p.agn [.nat]) λs=>cG (dy FU s F) λd=>if(dw d 0) then some (⟨eL,0⟩,d)else cG (gR p.agn t 1) λe=>if(dw e 0) then some (⟨eL,0⟩,e)else cX (dD n L a p F mb) λu f=>if(dw f 0) then some (⟨eL,0⟩,f)else cG (dk p.eB 1 1) λg=>if(dw g 0) then some (⟨eL,0⟩,g)else cG (ee p [.nat]) λh=>cG (dU F 1 (ea .i64 1 1)) λi=>cG (ep h i) λj=>cG (dU F 1 1) λk=>cX (dD n L b j k (gu v0)) λl c=>if(dw c 0) then some (⟨eL,0⟩,c)else cX (gQ F t) λm o=>cG (iP t) λq=>cG (dS l.eX 1) λr=>some (⟨m,vT .u32 (vT .u32 q u.eX) r⟩,o):=by
 rfl
def Pq(n:Nat)(L:List Fm)(t:Tm)(F:Fm)(a b:Pf)(p:cQ):lI (n+1) L (.mk 17 0 .z [t] [F] [a,b]) p=cG (eZ p.agn [.k1]) λs=>cG (dy FU s F) λd=>if(dw d 0) then some (⟨eL,0⟩,d)else cG (gR p.agn t 2) λe=>if(dw e 0) then some (⟨eL,0⟩,e)else cX (dD n L a p F (.mk 7 0 .z [])) λu f=>if(dw f 0) then some (⟨eL,0⟩,f)else cG (dk p.eB 2 1) λg=>if(dw g 0) then some (⟨eL,0⟩,g)else cG (ee p [.nat,.k1]) λh=>cG (dU F 1 (ea .i64 2 1)) λi=>cG (ep h i) λj=>cG (dU F 1 2) λk=>cX (dD n L b j k (.mk 8 0 .z [v1,v0])) λl c=>if(dw c 0) then some (⟨eL,0⟩,c)else cX (gQ F t) λm o=>cG (iP t) λq=>cG (dS l.eX 2) λr=>some (⟨m,vT .u32 (vT .u32 q u.eX) r⟩,o):=by
 rfl
def GV{L:List Fm}{t:Tm}(g:t.err=0){F:Fm}(hF:F.err=0){a b:Pf}{N:Nat}(X:fX L a N)(Y:fX L b N):fX L (.mk 16 0 .z [t] [F] [a,b]) (N+5):=by
 refine fX.of λn n' hn Z p c h=>?_;have j:=h.pl.nv;have H:=h.pl.ctx;have aa:=(Fm.eJ hF).2;obtain⟨t1,t2,_⟩:=nT H.nat aaP hF;obtain⟨s1,s2⟩:=has_both H j rfl g 1;rw[show n'+4=n'+2+2 from rfl,Qc,Qo,PW,h.pl.agn,mZ Ty.ew VW,cv,t1,cv,dt aaP,cL,eb,t2,cv,s1,s2,cv,cv]
 by_cases o:F.qd (c.agn++[.nat])=0
 ·have r:=o;rw[<-uC (a:=_=_),<-ne_eq,<-cV] at r;rw[cI r,cI r,fR o];have d:=nS F (Fm.eJ hF).1 _ H.nat o;have s:F.agp 1000000000=true:=d.agp _ aaP
  by_cases u:kO t c.agn 1=0
  ·have r:=u;rw[<-uC (a:=_=_),<-ne_eq,<-cV] at r;rw[cI r,cI r,fR u];have E:du c.agn t .nat:=CH H g (.inl rfl) u;have K:nx c.agn F mb:=⟨hF,Xc,.nat,d,.zero⟩;rw[show eQ 4 []=some mb from xA,cv];rcases nO j (X (n+2) (n'+1) VW VW p c h) K with⟨e,z,l,m,he,i,x,y,hu⟩|⟨f,m,l,i,x,y,hu⟩
   ·rw[i,x,y,cH,cH,cK (by rw[cV];exact he),cK (by rw[cV];exact he)];exact iD.no he rfl rfl rfl
   ·rw[i,x,y,cH,cH,cI nz,cI nz,eF];rcases h.room (v:=1) (k:=1) VW VW with⟨A,B,U,r4⟩|⟨A,B,U⟩
    ·have A:dk p.eB 1 1=some 0:=A;have B:di c 1 1=some 0:=B;rw[A,B,cv,cv,cI nz,cI nz,iy VW];obtain⟨p1,c1,e1,e2,e3,I,M⟩:=h.below Ty.ew U;obtain⟨p2,J,b1,b2,V,O,W⟩:=e3.with (f:=F) (by rw[I];exact⟨hF,d⟩) (by rw[M];simpa using r4)
     have l1:dU F 1 (ea .i64 1 1)=some F:=by
      rw[dF VW VW];have:=(o0 hF s (f:=1) (c:=0) VW VW).1;rw[show F.up ((1:Nat):Int) ((0:Nat):Int)=F from sj] at this;exact this
     have l2:dU F 1 1=some (F.up 1 1):=(o0 hF s (f:=1) (c:=1) VW VW).1;have l3:fq FU F 1 1=some (F.up 1 1):=(o0 hF s (f:=1) (c:=1) VW VW).2;rw[e1,e2,cv,cv,l1,cv,b1,b2,cv,cv,l2,l3,cv,cv];rw[show eQ 5 [v0]=some (gu v0)from Aa aaa,cv];have hi:=Y (n+2) (n'+1) VW VW p2 J V;have P:J.agn.length<=16:=V.pl.nv
     have G:J.agn=c.agn++[.nat]:=by rw[O,I]
     have Q:nx J.agn (F.up 1 1) (gu v0):=⟨CL hF VW VW,Sv,.nat,by
      rw[G];have:=d.up c.agn [.nat] [.nat] rfl
      simpa using this,by rw[G];exact .succ sD⟩
     rcases nO P hi Q with⟨e,z,R,S,he,i,x,y,C⟩|⟨f',S,R,i,x,y,C⟩
     ·rw[O,W,I,M] at i;rw[i,x,y,cH,cH,cK (by rw[cV];exact he),cK (by rw[cV];exact he)];exact iD.no he rfl rfl rfl
     ·rw[O,W,I,M] at i;obtain⟨lf,f1,f2,f3⟩:=rj j E g;have D:nx c.agn F t:=⟨hF,g,.nat,d,E⟩;obtain⟨u1,u2,u3⟩:=C.out (by have:=C.len;omega) (k:=1) VW;have u1:eR R 1=some (rM ((1:Nat):Int) R):=u1;have u2:dS (S:Int) 1=some ((S/2^1:Nat):Int):=u2;obtain⟨q,v1,v2,v3,_⟩:=f3.union hu (by have:=f3.len;omega) (by have:=hu.len;omega);obtain⟨q',w1,w2,w3,_⟩:=v3.union u3 (by have:=v3.len;omega) (by have:=u3.len;omega);rw[i,x,y,cH,cH,cI nz,cI nz,eF,(D.both VW).1,(D.both VW).2];obtain⟨w,e,hw⟩:∃w e,kP F t=(w,e):=⟨_,_,rfl⟩;rw[hw,cH,cH,f1,f2,cv,cv,u2,v1,cv,cv,u1,cv,w1,cv];simp only[];rw[v2,w2];rcases ma F t with T|⟨ab,T⟩
      ·rw[T] at hw;obtain⟨rfl,rfl⟩:=gE hw;rw[gG aaa];exact iD.no aaa rfl rfl rfl
      ·rw[T] at hw;obtain⟨rfl,rfl⟩:=gE hw;rw[fR rfl];exact iD.yes (f:=Fm.j3 0 F t) rfl rfl rfl w3 D.put VW
    ·have A:dk p.eB 1 1=some 3:=A;have B:di c 1 1=some 3:=B;rw[A,B,cv,cv,cK aaa,cK aaa,hZ VW];exact iD.no aaa rfl rfl rfl
  ·rw[cK (by rw[cV];exact u),cK (by rw[cV];exact u),gG u];exact iD.no u rfl rfl rfl
 ·rw[cK (by rw[cV];exact o),cK (by rw[cV];exact o),gG o];exact iD.no o rfl rfl rfl
def GS{L:List Fm}{t:Tm}(g:t.err=0){F:Fm}(hF:F.err=0){a b:Pf}{N:Nat}(X:fX L a N)(Y:fX L b N):fX L (.mk 17 0 .z [t] [F] [a,b]) (N+5):=by
 refine fX.of λn n' hn Z p c h=>?_;have o:=h.pl.nv;have H:=h.pl.ctx;have aa:=(Fm.eJ hF).2;obtain⟨t1,t2,_⟩:=nT H.k1 aaP hF;obtain⟨s1,s2⟩:=has_both H o rfl g 2;rw[show n'+4=n'+2+2 from rfl,PH,P1,Pq,h.pl.agn,mZ Ty.kT VW,cv,t1,cv,dt aaP,cL,eb,t2,cv,s1,s2,cv,cv]
 by_cases r:F.qd (c.agn++[.k1])=0
 ·have s:=r;rw[<-uC (a:=_=_),<-ne_eq,<-cV] at s;rw[cI s,cI s,fR r];have d:=nS F (Fm.eJ hF).1 _ H.k1 r;have i:F.agp 1000000000=true:=d.agp _ aaP
  by_cases u:kO t c.agn 2=0
  ·have s:=u;rw[<-uC (a:=_=_),<-ne_eq,<-cV] at s;rw[cI s,cI s,fR u];have E:du c.agn t .k1:=CH H g (.inr rfl) u;have K:nx c.agn F (.mk 7 0 .z []):=⟨hF,Pv,.k1,d,.nil⟩;rw[show eQ 7 []=some (.mk 7 0 .z [])from xA,cv];rcases nO o (X (n+2) (n'+1) VW VW p c h) K with⟨e,z,l,m,he,j,x,y,hu⟩|⟨f,m,l,j,x,y,hu⟩
   ·rw[j,x,y,cH,cH,cK (by rw[cV];exact he),cK (by rw[cV];exact he)];exact iD.no he rfl rfl rfl
   ·rw[j,x,y,cH,cH,cI nz,cI nz,eF];rcases h.room (v:=2) (k:=1) VW VW with⟨A,B,U,r4⟩|⟨A,B,U⟩
    ·have A:dk p.eB 2 1=some 0:=A;have B:di c 2 1=some 0:=B;rw[A,B,cv,cv,cI nz,cI nz,iy VW];obtain⟨p1,c1,e1,e2,e3,I,M⟩:=Ke h U;obtain⟨p2,J,b1,b2,V,O,W⟩:=e3.with (f:=F.up 1 1) (by rw[I];exact⟨CL hF VW VW,by have:=d.up c.agn [.k1] [.nat] rfl;simpa using this⟩) (by rw[M];simpa using r4)
     have l1:dU F 1 (ea .i64 2 1)=some (F.up 1 1):=by
      rw[dF VW VW];exact(o0 hF i (f:=1) (c:=1) VW VW).1
     have l2:dU F 1 2=some (F.up 1 2):=(o0 hF i (f:=1) (c:=2) VW VW).1;have l3:fq FU F 1 1=some (F.up 1 1):=(o0 hF i (f:=1) (c:=1) VW VW).2;have l4:fq FU F 1 2=some (F.up 1 2):=(o0 hF i (f:=1) (c:=2) VW VW).2;rw[e1,e2,cv,cv,l1,cv,l3,cv,b1,b2,cv,cv,l2,l4,cv,cv];rw[show eQ 8 [v1,v0]=some (.mk 8 0 .z [v1,v0])from ov aaa aaa,cv];have hi:=Y (n+2) (n'+1) VW VW p2 J V;have P:J.agn.length<=16:=V.pl.nv
     have G:J.agn=c.agn++[.nat]++[.k1]:=by rw[O,I]
     have Q:nx J.agn (F.up 1 2) (.mk 8 0 .z [v1,v0]):=⟨CL hF VW VW,TB,.k1,by
      rw[G];have:=d.up c.agn [.k1] [.nat,.k1] rfl
      simpa using this,by rw[G];exact .cons ET sD⟩
     rcases nO P hi Q with⟨e,z,R,S,he,j,x,y,C⟩|⟨f',S,R,j,x,y,C⟩
     ·rw[O,W,I,M] at j;rw[j,x,y,cH,cH,cK (by rw[cV];exact he),cK (by rw[cV];exact he)];exact iD.no he rfl rfl rfl
     ·rw[O,W,I,M] at j;obtain⟨lf,f1,f2,f3⟩:=rj o E g;have D:nx c.agn F t:=⟨hF,g,.k1,d,E⟩;obtain⟨u1,u2,u3⟩:=C.out (by have:=C.len;omega) (k:=2) VW;have u1:eR R 2=some (rM ((2:Nat):Int) R):=u1;have u2:dS (S:Int) 2=some ((S/2^2:Nat):Int):=u2;obtain⟨q,v1,v2,v3,_⟩:=f3.union hu (by have:=f3.len;omega) (by have:=hu.len;omega);obtain⟨q',w1,w2,w3,_⟩:=v3.union u3 (by have:=v3.len;omega) (by have:=u3.len;omega);rw[j,x,y,cH,cH,cI nz,cI nz,eF,(D.both VW).1,(D.both VW).2];obtain⟨w,e,hw⟩:∃w e,kP F t=(w,e):=⟨_,_,rfl⟩;rw[hw,cH,cH,f1,f2,cv,cv,u2,v1,cv,cv,u1,cv,w1,cv];simp only[];rw[v2,w2];rcases ma F t with T|⟨ab,T⟩
      ·rw[T] at hw;obtain⟨rfl,rfl⟩:=gE hw;rw[gG aaa];exact iD.no aaa rfl rfl rfl
      ·rw[T] at hw;obtain⟨rfl,rfl⟩:=gE hw;rw[fR rfl];exact iD.yes (f:=Fm.j3 0 F t) rfl rfl rfl w3 D.put VW
    ·have A:dk p.eB 2 1=some 3:=A;have B:di c 2 1=some 3:=B;rw[A,B,cv,cv,cK aaa,cK aaa,hZ VW];exact iD.no aaa rfl rfl rfl
  ·rw[cK (by rw[cV];exact u),cK (by rw[cV];exact u),gG u];exact iD.no u rfl rfl rfl
 ·rw[cK (by rw[cV];exact r),cK (by rw[cV];exact r),gG r];exact iD.no r rfl rfl rfl
def Tm.sg{t:Tm}(h:t.ok=true)(hn:t.agl<=4096):t.err=0:=by grind[Tm.err]
def TM(n:Nat)(c:cW)(t:Tm):c0 (n+1) c (.mk 18 0 .z [t] [] [])=cG (mf t t) λa=>cG (gi c t 1) λb=>some (a,[],b):=by rw[c0];rfl
def NC(L:List Fm)(t:Tm)(g:List Ty)(hs:List Fm):k5 L 18 0 .z [t] [] (Pf.oY L []) g hs=iN (kO t g 1) (.inl (.mk 1 .z [t,t] [],0)):=rfl
def SL(n:Nat)(L:List Fm)(t:Tm)(p:cQ):lI n L (.mk 18 0 .z [t] [] []) p=cG (gJ p.agn t) λa=>if(dw a 0) then some (⟨eL,0⟩,a)else some (⟨.mk 1 .z [t,t] [],0⟩,0):=rfl
def JI{L:List Fm}{t:Tm}(a:t.err=0):fX L (.mk 18 0 .z [t] [] []) 5:=by
 refine fX.of (N:=0) λn n' _ _ p c h=>?_;have e:=h.pl.nv;have f:=h.pl.ctx;obtain⟨a1,a2⟩:=Tm.eJ a;have hw:=t.gm a1;rw[show n'+4=n'+3+1 from rfl,TM,NC,SL,h.pl.agn,rq a1 f VW,(has_both f e rfl a 1).2,yP VW VW,cv,cv,cv]
 by_cases b:kO t c.agn 1=0
 ·have d:du c.agn t .nat:=CH f a (.inl rfl) b;rw[cI (by rw[cV];simpa using b),fR b,b];refine iD.yes rfl rfl rfl .nil (.eq d d) ?_;rw[Fm.cJ];simp only[cU];omega
 ·rw[cK (by rw[cV];exact b),gG b];exact iD.no b rfl rfl rfl
def Qv(n:Nat)(c:cW)(F:Fm)(a b:Pf):c0 (n+2) c (.mk 19 0 .z [] [F] [a,b])=hB (fY (eM c.agn [.nat])<|cG (jP (eV c.agn [.nat]) F) λe=>if(dw e 0) then some (eL,[],e)else cX (de n c a) λd f=>if(dw f 0) then some (eL,[],f)else if(dw d.cR.agj 1) then some (eL,[],10)else cG (df d.cR.dc 0) λo=>cX (dQ n c b F o) λp g=>if(dw g 0) then some (eL,[],g)else cG (df d.cR.dc 1) λh=>cX (iJ F h) λi j=>some (i,p,j)) λk l m=>some (k,l,m):=by
 rw[c0];rw[oP];rfl
def Pg(L:List Fm)(F:Fm)(a b:Pf)(g:List Ty)(hs:List Fm):k5 L 19 0 .z [] [F] (Pf.oY L [a,b]) g hs=iN (F.qd (g++[.nat])) (pbind (A4 (a.inf L g hs) 1) λa _=>pbind (Dm (b.inf L g hs) F (a.dc.getD 0 Tm.z)) λ_ n=>iN (kP F (a.dc.getD 1 Tm.z)).2 (.inl ((kP F (a.dc.getD 1 Tm.z)).1,n))):=rfl
def QA(n:Nat)(L:List Fm)(F:Fm)(a b:Pf)(p:cQ):lI (n+1) L (.mk 19 0 .z [] [F] [a,b]) p=cG (eZ p.agn [.nat]) λj=>cG (dy FU j F) λc=>if(dw c 0) then some (⟨eL,0⟩,c)else cX (dA n L a p 1) λd e=>if(dw e 0) then some (⟨eL,0⟩,e)else cG (df d.cR.dc 0) λk=>cX (dD n L b p F k) λl f=>if(dw f 0) then some (⟨eL,0⟩,f)else cG (df d.cR.dc 1) λg=>cX (gQ F g) λh i=>some (⟨h,l.eX⟩,i):=by
 show jE (n+1) L (.mk 19 0 .z [] [F] [a,b]) p=_;rw[jE];rfl
def HJ{L:List Fm}{F:Fm}(hF:F.err=0){a b:Pf}{N:Nat}(E:fX L a N)(G:fX L b N):fX L (.mk 19 0 .z [] [F] [a,b]) (N+5):=by
 refine fX.of λn n' hn H p c h=>?_;have r:=h.pl.nv;have B:=h.pl.ctx;have I:=(Fm.eJ hF).2;obtain⟨t1,t2,_⟩:=nT B.nat aaP hF;rw[show n'+4=n'+2+2 from rfl,Qv,Pg,QA,h.pl.agn,mZ Ty.ew VW,cv,t1,cv,dt aaP,cL,eb,t2,cv]
 by_cases i:F.qd (c.agn++[.nat])=0
 ·have s:=i;rw[<-uC (a:=_=_),<-ne_eq,<-cV] at s;rw[cI s,cI s,fR i];have g:=nS F (Fm.eJ hF).1 _ B.nat i;rcases jw (E (n+2) (n'+2) VW VW p c h) 1 with⟨e,he,j,k,d⟩|⟨f,m,l,j,k,d,hu,C,t⟩
  ·rw[j,k,cH,cK (by rw[cV];exact he)];rcases d with d|⟨f,l,m,d,t,rfl,_⟩
   ·rw[d,cH,cK (by rw[cV];exact he)];exact iD.no he rfl rfl rfl
   ·rw[d,cH,cI nz,cK (by rw[cV];exact t)];exact iD.no he rfl rfl rfl
  ·obtain⟨x,y,rfl,D,hy⟩:=C.ty.Xn t;have q:=C.agl;rw[Fm.cJ] at q;simp only[cU] at q;have u:x.err=0:=Tm.sg D.ok VW;have v:y.err=0:=Tm.sg hy.ok VW;have w:nx c.agn F x:=⟨hF,u,.nat,g,D⟩;have o:nx c.agn F y:=⟨hF,v,.nat,g,hy⟩;rw[j,k,d,cH,cH,cI nz,cI nz,cI aaB,eF];simp only[Fm.eN,dg,ed,gd,jF,cv,tc,I8];rcases nO r (G (n+2) (n'+1) VW VW p c h) w with⟨e,z,l,m,he,j,k,d,hu⟩|⟨f,m,l,j,k,d,hu⟩
   ·rw[j,k,d,cH,cH,cK (by rw[cV];exact he),cK (by rw[cV];exact he)];exact iD.no he rfl rfl rfl
   ·rw[j,k,d,cH,cH,cI nz,cI nz,eF,(o.both VW).1,(o.both VW).2];rcases ma F y with A|⟨J,A⟩
    ·rw[A,cH,cH,gG aaa];exact iD.no aaa rfl rfl rfl
    ·rw[A,cH,cH,fR rfl];exact iD.yes (f:=Fm.j3 0 F y) rfl rfl rfl hu o.put VW
 ·rw[cK (by rw[cV];exact i),cK (by rw[cV];exact i),gG i];exact iD.no i rfl rfl rfl
def UR(f:Fm)(l:List Int):Option (Fm×List Int×Int):=
 dj (λ(d:Bool)=>if d then some (eL,[],10)else cG (df f.agk 0) λa=>cG (kZ f.cO a.cO) λb=>cG (iA b) λe=>if(dw e 0) then some (eL,[],4)else cG (df a.agk 0) λg=>cG (fq FU g 2 1) λh=>cG (eQ 3 [v1,v0]) λi=>cX (iJ h i) λj k=>cG (jA 4 f.cO j) λm=>cG (jA 5 b m) λn=>some (n,l,k)) λc=>if(dw f.agj 4) then c true else cG (df f.agk 0) λo=>c (dw o.agj 5)
def QI{f:Fm}{l:List Int}(h:f.agj≠4):UR f l=some (eL,[],10):=by grind[dw,cV,UR,cN]
def Px{s:Ty}{x:Fm}{l:List Int}(h:x.agj≠5):UR (.mk 4 s [] [x]) l=some (eL,[],10):=by
 have o:dw x.agj 5=true:=by rw[cV];exact h
 have e:UR (.mk 4 s [] [x]) l=(λ(c:Bool)=>if c then some (eL,[],10)else cG (df [x] 0) λa=>cG (kZ s a.cO) λb=>cG (iA b) λd=>if(dw d 0) then some (eL,[],4)else cG (df a.agk 0) λf=>cG (fq FU f 2 1) λg=>cG (eQ 3 [v1,v0]) λi=>cX (iJ g i) λj k=>cG (jA 4 s j) λm=>cG (jA 5 b m) λn=>some (n,l,k)) (dw x.agj 5):=rfl
 grind
def WS{s u:Ty}{y:Fm}{l:List Int}:UR (.mk 4 s [] [.mk 5 u [] [y]]) l=cG (kZ s u) λa=>cG (iA a) λb=>if(dw b 0) then some (eL,[],4)else cG (fq FU y 2 1) λc=>cG (eQ 3 [v1,v0]) λd=>cX (iJ c d) λe f=>cG (jA 4 s e) λg=>cG (jA 5 a g) λh=>some (h,l,f):=rfl
def M1(n:Nat)(c:cW)(a:Pf):c0 (n+2) c (.mk 20 0 .z [] [] [a])=hB (cX (de n c a) λb d=>if(dw d 0) then some (eL,[],d)else UR b.cR b.eX) λe f g=>some (e,f,g):=by
 rw[c0];rw[om];rfl
def Np(L:List Fm)(a:Pf)(g:List Ty)(hs:List Fm):k5 L 20 0 .z [] [] (Pf.oY L [a]) g hs=pbind (A4 (a.inf L g hs) 4) λa m=>qR ((a.agk.getD 0 eL).agj≠5) 10 (qR ((Ty.fn a.cO (a.agk.getD 0 eL).cO).err≠0) 4 (qR ((kP (((a.agk.getD 0 eL).agk.getD 0 eL).up 2 1) (gp v1 v0)).2≠0) 4 (.inl (.mk 5 (Ty.fn a.cO (a.agk.getD 0 eL).cO) [] [.mk 4 a.cO [] [(kP (((a.agk.getD 0 eL).agk.getD 0 eL).up 2 1) (gp v1 v0)).1]],m)))):=rfl
def WE(f:Fm)(u:Int):Option (cM×Int):=
 cG (df f.agk 0) λa=>if(dw a.agj 5) then some (⟨eL,0⟩,10)else cG (mM a.cO [f.cO]) λb=>cG (df a.agk 0) λd=>cG (dU d 2 1) λe=>cG (gU 1) λg=>cG (gU 0) λh=>cG (rC g [h]) λi=>cX (gQ e i) λj k=>dj (λ(l:Bool)=>if l then some (⟨eL,0⟩,4)else cG (jt 4 f.cO j) λm=>cG (jt 5 b m) λn=>some (⟨n,u⟩,0)) λc=>if(dw k 0) then c true else cG (kL b) λo=>c (dw o 0)
def Qz{s:Ty}{x:Fm}{u:Int}(h:x.agj≠5):WE (.mk 4 s [] [x]) u=some (⟨eL,0⟩,10):=by grind[dw,cV,WE,Fm.cZ,dg,cv]
def MD(n:Nat)(L:List Fm)(a:Pf)(p:cQ):lI (n+1) L (.mk 20 0 .z [] [] [a]) p=cX (dA n L a p 4) λb c=>if(dw c 0) then some (⟨eL,0⟩,c)else WE b.cR b.eX:=by
 show kQ (n+1) L (.mk 20 0 .z [] [] [a]) p=_;rfl
def Xq{s u:Ty}{y b:Fm}{m:Int}{q:Fm×Int}(v:dU y 2 1=some b)(x:gQ b (gp v1 v0)=some q)(z:kL (.fn s u)=some (Ty.fn s u).err):WE (.mk 4 s [] [.mk 5 u [] [y]]) m=if q.2=0/\(Ty.fn s u).err=0 then some (⟨.mk 5 (.fn s u) [] [.mk 4 s [] [q.1]],m⟩,0)else some (⟨eL,0⟩,4):=by
 obtain⟨w,e⟩:=q
 have A:WE (.mk 4 s [] [.mk 5 u [] [y]]) m=cG (mM u [s]) λa=>cG (dU y 2 1) λf=>cG (gU 1) λg=>cG (gU 0) λi=>cG (rC g [i]) λj=>cX (gQ f j) λk l=>dj (λ(n:Bool)=>if n then some (⟨eL,0⟩,4)else cG (jt 4 s k) λo=>cG (jt 5 a o) λp=>some (⟨p,m⟩,0)) λc=>if(dw l 0) then c true else cG (kL a) λr=>c (dw r 0):=by
  rfl
 rw[A,JS,cv,v,cv,show gU 1=some v1 from rfl,cv,show gU 0=some v0 from rfl,cv,wJ,cv,show Tm.mk 3 0 (.mk 0 []) [v1,v0]=gp v1 v0 from rfl,x,cH,cN,z,cv]
 by_cases he:e=0
 ·subst he;rw[cI nz]
  by_cases d:(Ty.fn s u).err=0
  ·have t:dw (Ty.fn s u).err 0=false:=by rw[d];rfl
   rw[t,cK ⟨rfl,d⟩];rfl
  ·have t:dw (Ty.fn s u).err 0=true:=by rw[cV];exact d
   rw[t,cI (λh=>d h.2)];rfl
 ·rw[cK (by rw[cV];exact he),cI (λh=>he h.1)];rfl
def E5{L:List Fm}{a:Pf}{N:Nat}(E:fX L a N):fX L (.mk 20 0 .z [] [] [a]) (N+5):=by
 refine fX.of λn n' hn F p c h=>?_;have G:=h.pl.nv;rw[show n'+4=n'+2+2 from rfl,M1,Np,MD];rcases jw (E (n+2) (n'+2) VW VW p c h) 4 with⟨e,he,k,o,i⟩|⟨f,m,l,k,o,i,hu,C,r⟩
 ·rw[k,o,cH,cK (by rw[cV];exact he)];rcases i with i|⟨f,l,m,i,r,rfl,_⟩
  ·rw[i,cH,cK (by rw[cV];exact he)];exact iD.no he rfl rfl rfl
  ·rw[i,cH,cI nz,QI r];exact iD.no he rfl rfl rfl
 ·obtain⟨s,x,rfl,hs,D⟩:=C.ty.yT r (.inl rfl);have t:=C.sub (x:=x) aaB D;rw[k,o,i,cH,cH,cI nz,cI nz,eF]
  by_cases d:x.agj=5
  ·obtain⟨u,y,rfl,v,hy⟩:=D.yT d (.inr (.inl rfl));have g:=t.sub (x:=y) aaB hy;have H:=dE hs;have I:=dE v;have J:=g.agl
   have K:(Ty.fn s u).agl<=1000:=by rw[Ty.gv];omega
   have j:y.agp 1000000000=true:=hy.agp _ aaP;have M:dU y 2 1=some (y.up 2 1):=(o0 g.err j (f:=2) (c:=1) VW VW).1;have O:fq FU y 2 1=some (y.up 2 1):=(o0 g.err j (f:=2) (c:=1) VW VW).2
   have w:nx (c.agn++[.fn s u]++[s]) (y.up 2 1) (gp v1 v0):=⟨CL g.err VW VW,aaa,u,by
    have:=hy.up c.agn [s,u] [.fn s u] aaB
    simpa using this,.app ET sD⟩
   obtain⟨P,Q⟩:=w.both aaP;have R:=Hr;have hw:=Fm.gm _ w.put.ok;simp only[Fm.cZ,Fm.dv,Fm.da,tc];rw[iy aaa,Xq M P (tk VW),WS,fL VW VW,cv,jd VW,cv]
   by_cases b:(Ty.fn s u).err=0
   ·have A:¬dw (Ty.fn s u).err 0=true:=by rw[cV];simpa using b
    rw[cI A,iy (by simpa using b),O,cv,show eQ 3 [v1,v0]=some (gp v1 v0)from ov aaa aaa,cv,Q];rcases ma (y.up 2 1) (gp v1 v0)with B|⟨S,B⟩
    ·rw[B,cI (λh=>by cases h.1),cH,hZ aaa,y9 VW VW,cv];rw[y9 VW (by rw[Fm.dC];simp only[cU];omega),cv];exact iD.no aaa rfl rfl rfl
    ·rw[B,cK ⟨rfl,b⟩,cH,iy (λh=>h rfl),y9 VW VW,cv];rw[y9 VW (by rw[Fm.dC];simp only[cU];omega),cv];refine iD.yes (f:=.mk 5 (.fn s u) [] [.mk 4 s [] [Fm.j3 0 (y.up 2 1) (gp v1 v0)]]) rfl rfl rfl hu (.q (.inr (.inl rfl)) b (.q (.inl rfl) hs w.put)) ?_;rw[Fm.cJ];simp only[cU];rw[Fm.cJ];simp only[cU];omega
   ·have A:dw (Ty.fn s u).err 0=true:=by rw[cV];exact b
    rw[cK A,hZ b,cI (λh=>b h.2)];exact iD.no aaa rfl rfl rfl
  ·simp only[Fm.cZ,tc];rw[Qz d,Px d,hZ d];exact iD.no aaa rfl rfl rfl
inductive tf:Pf->Prop
 |hyp {i}:0<=i->tf (.mk 1 i .z [] [] [])|F8 {i}:0<=i->tf (.mk 2 i .z [] [] [])|Sz {a b}:tf a->tf b->tf (.mk 3 0 .z [] [] [a,b])|and {k a}:k=4\/k=5->tf a->tf (.mk k 0 .z [] [] [a])|Tc {F a}:F.err=0->tf a->tf (.mk 6 0 .z [] [F] [a])|Ta {a b}:tf a->tf b->tf (.mk 7 0 .z [] [] [a,b])|all {k s a}:k=8\/k=12->s.err=0->tf a->tf (.mk k 0 s [] [] [a])|Y2 {k t a}:k=9\/k=13->t.err=0->tf a->tf (.mk k 0 .z [t] [] [a])|ex {k t F a}:k=10\/k=14->t.err=0->F.err=0->tf a->tf (.mk k 0 .z [t] [F] [a])|Ys {k a b}:k=11\/k=15->tf a->tf b->tf (.mk k 0 .z [] [] [a,b])|ind {k t F a b}:k=16\/k=17->t.err=0->F.err=0->tf a->tf b->tf (.mk k 0 .z [t] [F] [a,b])|refl {t}:t.err=0->tf (.mk 18 0 .z [t] [] [])|subst {F a b}:F.err=0->tf a->tf b->tf (.mk 19 0 .z [] [F] [a,b])|choice {a}:tf a->tf (.mk 20 0 .z [] [] [a])
mutual
def Pf.ta:Pf->Nat
 |.mk _ _ _ _ _ l=>1+Pf.qe l
def Pf.qe:List Pf->Nat
 |[]=>0|p::l=>p.ta+Pf.qe l
end
def fX.mono{L:List Fm}{P:Pf}{N M:Nat}(h:fX L P N)(a:N<=M):fX L P M:=λn n' b c=>h n n' VW VW
def Nu{L:List Fm}{P:Pf}(h:tf P):fX L P (5*P.ta):=by
 induction h with
 |hyp hi=>exact Mf hi|F8 hi=>exact Nd hi|Sz _ _ a b=>exact(JP (a.mono (Ih _ _)) (b.mono (IP _ _))).mono (by simp only[Pf.ta,Pf.qe];omega)|and c _ a=>
  rcases c with rfl|rfl
  ·exact(Jh a).mono (by simp only[Pf.ta,Pf.qe];omega)
  ·exact(Kg a).mono (by simp only[Pf.ta,Pf.qe];omega)
 |Tc hF _ a=>exact(JM hF a).mono (by simp only[Pf.ta,Pf.qe];omega)|Ta _ _ a b=>exact(Jg (a.mono (Ih _ _)) (b.mono (IP _ _))).mono (by simp only[Pf.ta,Pf.qe];omega)|all c hs _ a=>
  rcases c with rfl|rfl
  ·exact(Jq hs a).mono (by simp only[Pf.ta,Pf.qe];omega)
  ·exact(HB hs a).mono (by simp only[Pf.ta,Pf.qe];omega)
 |Y2 c d _ a=>
  rcases c with rfl|rfl
  ·exact(LR d a).mono (by simp only[Pf.ta,Pf.qe];omega)
  ·exact(Jw d a).mono (by simp only[Pf.ta,Pf.qe];omega)
 |ex c d hF _ a=>
  rcases c with rfl|rfl
  ·exact(Js d hF a).mono (by simp only[Pf.ta,Pf.qe];omega)
  ·exact(JR d hF a).mono (by simp only[Pf.ta,Pf.qe];omega)
 |Ys c _ _ a b=>
  rcases c with rfl|rfl
  ·exact(Er (a.mono (Ih _ _)) (b.mono (IP _ _))).mono (by simp only[Pf.ta,Pf.qe];omega)
  ·exact(Fi (a.mono (Ih _ _)) (b.mono (IP _ _))).mono (by simp only[Pf.ta,Pf.qe];omega)
 |ind c d hF _ _ a b=>
  rcases c with rfl|rfl
  ·exact(GV d hF (a.mono (Ih _ _)) (b.mono (IP _ _))).mono (by simp only[Pf.ta,Pf.qe];omega)
  ·exact(GS d hF (a.mono (Ih _ _)) (b.mono (IP _ _))).mono (by simp only[Pf.ta,Pf.qe];omega)
 |refl d=>exact JI d|subst hF _ _ a b=>exact(HJ hF (a.mono (Ih _ _)) (b.mono (IP _ _))).mono (by simp only[Pf.ta,Pf.qe];omega)|choice _ a=>exact(E5 a).mono (by simp only[Pf.ta,Pf.qe];omega)
mutual
def Pf.agl:Pf->Nat
 |.mk _ _ _ ts a l=>1+cU Tm.agl ts+cU Fm.agl a+Pf.j2 l
def Pf.j2:List Pf->Nat
 |[]=>0|p::l=>p.agl+Pf.j2 l
end
def Pf.me:∀l:List Pf,Pf.j2 l=cU Pf.agl l
 |[]=>by rw[Pf.j2];rfl|p::l=>by rw[Pf.j2,Pf.me l];rfl
theorem Pf.cJ(k i:Int)(s:Ty)(ts:List Tm)(a:List Fm)(l:List Pf):(Pf.mk k i s ts a l).agl=1+cU Tm.agl ts+cU Fm.agl a+cU Pf.agl l:=by rw[Pf.agl,Pf.me]
mutual
def Pf.wt:Pf->Nat
 |.mk _ _ s ts a l=>1+s.agl+cU Tm.wt ts+cU Fm.wt a+Pf.Gt l
def Pf.Gt:List Pf->Nat
 |[]=>0|p::l=>p.wt+Pf.Gt l
end
def Pf.xK:∀l:List Pf,Pf.Gt l=cU Pf.wt l
 |[]=>by rw[Pf.Gt];rfl|p::l=>by rw[Pf.Gt,Pf.xK l];rfl
theorem Pf.dC(k i:Int)(s:Ty)(ts:List Tm)(a:List Fm)(l:List Pf):(Pf.mk k i s ts a l).wt=1+s.agl+cU Tm.wt ts+cU Fm.wt a+cU Pf.wt l:=by rw[Pf.wt,Pf.xK]
def Pf.fO(p:Pf):1<=p.wt:=by cases p;rw[Pf.dC];omega
def Pf.ind{p:Pf->Prop}(h:∀k i s ts a l,(∀t∈l,p t)->p (.mk k i s ts a l))(t:Pf):p t:=by
 match t with
 |.mk k i s ts a l=>exact h k i s ts a l λx b=>Pf.ind h x
termination_by SizeOf.sizeOf t
decreasing_by
 have:=Vg b;simp only[Pf.mk.sizeOf_spec];omega
def Pf.fp(p:Pf):p.agl<=p.wt:=by
 induction p using Pf.ind with
 |h k i s ts a l b=>
  rw[Pf.cJ,Pf.dC];have c:=gP (l:=ts) (λx _=>Tm.fp x);have d:=gP (l:=a) (λx _=>Fm.fp x);have e:=gP (l:=l) b;omega
def Pf.sig(k:Int):Option (Bool×Bool×Nat×Nat×Nat):=
 if k=1\/k=2 then some (true,false,0,0,0)
 else if k=3\/k=7\/k=11\/k=15 then some (false,false,0,0,2)
 else if k=4\/k=5\/k=20 then some (false,false,0,0,1)
 else if k=6 then some (false,false,0,1,1)
 else if k=8\/k=12 then some (false,true,0,0,1)
 else if k=9\/k=13 then some (false,false,1,0,1)
 else if k=10\/k=14 then some (false,false,1,1,1)
 else if k=16\/k=17 then some (false,false,1,1,2)
 else if k=18 then some (false,false,1,0,0)
 else if k=19 then some (false,false,0,1,2)
 else none
def Pf.node(k i:Int)(s:Ty)(d nf e:Nat):Bool:=
 match Pf.sig k with
 |none=>false|some (f,ty,a,b,c)=>decide (d=a)&&decide (nf=b)&&decide (e=c)&&decide (0<=i)&&(f||decide (i=0))&&(if ty then decide (s.err=0)else s.mg)
mutual
def Pf.ok:Pf->Bool
 |.mk k i s ts a l=>Pf.node k i s ts.length a.length l.length&&ts.all Tm.ok&&a.all Fm.ok&&Pf.Ci l
def Pf.Ci:List Pf->Bool
 |[]=>true|p::l=>p.ok&&Pf.Ci l
end
def Pf.tz:∀l:List Pf,Pf.Ci l=l.all Pf.ok
 |[]=>by rw[Pf.Ci];rfl|p::l=>by rw[Pf.Ci,Pf.tz l];rfl
theorem Pf.eD(k i:Int)(s:Ty)(ts:List Tm)(a:List Fm)(l:List Pf):(Pf.mk k i s ts a l).ok=(Pf.node k i s ts.length a.length l.length&&ts.all Tm.ok&&a.all Fm.ok&&l.all Pf.ok):=by rw[Pf.ok,Pf.tz]
def J'(t:Tm):Bool:=decide (t.agl<=4096)
def M5(f:Fm):Bool:=decide (f.agl<=4096)
mutual
def Pf.small:Pf->Bool
 |.mk _ _ _ ts a l=>ts.all J'&&a.all M5&&Pf.z7 l
def Pf.z7:List Pf->Bool
 |[]=>true|p::l=>p.small&&Pf.z7 l
end
def Pf.Cc:∀l:List Pf,Pf.z7 l=l.all Pf.small
 |[]=>by rw[Pf.z7];rfl|p::l=>by rw[Pf.z7,Pf.Cc l];rfl
def Pf.rH(k i:Int)(s:Ty)(ts:List Tm)(a:List Fm)(l:List Pf):(Pf.mk k i s ts a l).small=(ts.all J'&&a.all M5&&l.all Pf.small):=by rw[Pf.small,Pf.Cc]
def Pf.err(p:Pf):Int:=if p.ok then(if p.small=true/\p.agl<=16384 then 0 else 4)else 2
def TI{k:Int}(h:Pf.sig k≠none):k=1\/k=2\/k=3\/k=4\/k=5\/k=6\/k=7\/k=8\/k=9\/k=10\/k=11\/k=12\/k=13\/k=14\/k=15\/k=16\/k=17\/k=18\/k=19\/k=20:=by
 refine adh λhn=>h ?_;unfold Pf.sig;simp only[not_or] at hn;rw[cI VW,cI VW,cI VW,cI VW,cI VW,cI VW,cI VW,cI VW,cI VW,cI VW]
def EF{k:Int}(h:k<1\/20<k):Pf.sig k=none:=by
 unfold Pf.sig;rw[cI VW,cI VW,cI VW,cI VW,cI VW,cI VW,cI VW,cI VW,cI VW,cI VW]
def JZ(k:Int):(Pf.sig k=none/\∃r,oe k=some (r,false))\/∃d ty a b c r,Pf.sig k=some (d,ty,a,b,c)/\oe k=some (r,true)/\r.agm=d/\r.typed=ty/\r.dc=((a:Nat):Int)/\r.eo=((b:Nat):Int)/\r.agk=((c:Nat):Int):=by
 by_cases h:k<1\/20<k
 ·refine .inl ⟨EF h,?_⟩;unfold oe;rw[cK (by rw[ja,nA,gH,fC];omega)];exact⟨_,rfl⟩
 ·have e:k=1\/k=2\/k=3\/k=4\/k=5\/k=6\/k=7\/k=8\/k=9\/k=10\/k=11\/k=12\/k=13\/k=14\/k=15\/k=16\/k=17\/k=18\/k=19\/k=20:=VW
  refine .inr ?_;rcases e with rfl|rfl|rfl|rfl|rfl|rfl|rfl|rfl|rfl|rfl|rfl|rfl|rfl|rfl|rfl|rfl|rfl|rfl|rfl|rfl<;>exact⟨_,_,_,_,_,_,rfl,rfl,rfl,rfl,rfl,rfl,rfl⟩
def HL(k:Int):(Pf.sig k=none/\∃r,oq k=some (r,false))\/∃d ty a b c r,Pf.sig k=some (d,ty,a,b,c)/\oq k=some (r,true)/\r.agm=d/\r.rf=ty/\r.dc=((a:Nat):Int)/\r.eo=((b:Nat):Int)/\r.agk=((c:Nat):Int):=by
 by_cases h:k<1\/20<k
 ·refine .inl ⟨EF h,?_⟩;unfold oq;simp only[ja,nA,dO];rw[cI VW,cI VW,cI VW,cI VW,cI VW,cI VW,cI VW,cI VW,cI VW,cI VW,cI VW];exact⟨_,rfl⟩
 ·have e:k=1\/k=2\/k=3\/k=4\/k=5\/k=6\/k=7\/k=8\/k=9\/k=10\/k=11\/k=12\/k=13\/k=14\/k=15\/k=16\/k=17\/k=18\/k=19\/k=20:=VW
  refine .inr ?_;rcases e with rfl|rfl|rfl|rfl|rfl|rfl|rfl|rfl|rfl|rfl|rfl|rfl|rfl|rfl|rfl|rfl|rfl|rfl|rfl|rfl<;>exact⟨_,_,_,_,_,_,rfl,rfl,rfl,rfl,rfl,rfl,rfl⟩
def gC{k i:Int}{s:Ty}{f nf g:Nat}(h:Pf.node k i s f nf g=true){j ty:Bool}{a b c:Nat}(hs:Pf.sig k=some (j,ty,a,b,c)):(f:Int)=a/\(nf:Int)=b/\(g:Int)=c/\0<=i/\(j=false->i=0)/\(ty=true->s.err=0)/\(ty=false->s=.mk 0 []):=by
 unfold Pf.node at h;rw[hs] at h;simp only[ez,kn,nA] at h;obtain⟨⟨⟨⟨⟨o,p⟩,q⟩,l⟩,m⟩,d⟩:=h;refine⟨VW,VW,VW,l,λn=>m.resolve_left (by simp[n]),λe=>?_,λe=>?_⟩
 ·rw[cK e] at d;simpa using d
 ·rw[cI aaN] at d;exact(Ty.iR s).1 d
def Pf.w(p:Pf):p.ok=true->p.small=true->tf p:=by
 induction p using Pf.ind with
 |h k i s ts D l y=>
  intro v hs;rw[Pf.eD] at v;rw[Pf.rH] at hs;simp only[ez,iC] at v hs;obtain⟨⟨⟨m,z⟩,A⟩,B⟩:=v;obtain⟨⟨s1,s2⟩,C⟩:=hs;have r:∀t∈ts,t.err=0:=λt q=>Tm.sg (z t q) (by have:=s1 t q;simpa[J'] using this)
  have u:∀f∈D,f.err=0:=λf q=>by
   have:=s2 f q;simp only[M5,kn] at this;unfold Fm.err;rw[cK (A f q),cI VW]
  have j:∀x∈l,tf x:=λx q=>y x q (B x q) (C x q);clear y z A B s1 s2 C;have E:=TI (k:=k) (λhn=>by unfold Pf.node at m;rw[hn] at m;cases m);rcases E with rfl|rfl|rfl|rfl|rfl|rfl|rfl|rfl|rfl|rfl|rfl|rfl|rfl|rfl|rfl|rfl|rfl|rfl|rfl|rfl
  ·obtain⟨q1,c,d,n,e,o,g⟩:=gC m rfl;obtain rfl:=er.1 q1;obtain rfl:=er.1 c;obtain rfl:=er.1 d;obtain rfl:=g rfl;exact .hyp n
  ·obtain⟨q1,c,d,n,e,o,g⟩:=gC m rfl;obtain rfl:=er.1 q1;obtain rfl:=er.1 c;obtain rfl:=er.1 d;obtain rfl:=g rfl;exact .F8 n
  ·obtain⟨q1,c,d,n,e,o,g⟩:=gC m rfl;obtain rfl:=er.1 q1;obtain rfl:=er.1 c;obtain⟨a,b,rfl⟩:=lE d;obtain rfl:=e rfl;obtain rfl:=g rfl;exact .Sz (j a aaB) (j b aaB)
  ·obtain⟨q1,c,d,n,e,o,g⟩:=gC m rfl;obtain rfl:=er.1 q1;obtain rfl:=er.1 c;obtain⟨a,rfl⟩:=gr d;obtain rfl:=e rfl;obtain rfl:=g rfl;exact .and (.inl rfl) (j a aaB)
  ·obtain⟨q1,c,d,n,e,o,g⟩:=gC m rfl;obtain rfl:=er.1 q1;obtain rfl:=er.1 c;obtain⟨a,rfl⟩:=gr d;obtain rfl:=e rfl;obtain rfl:=g rfl;exact .and (.inr rfl) (j a aaB)
  ·obtain⟨q1,c,d,n,e,o,g⟩:=gC m rfl;obtain rfl:=er.1 q1;obtain⟨F,rfl⟩:=gr c;obtain⟨a,rfl⟩:=gr d;obtain rfl:=e rfl;obtain rfl:=g rfl;exact .Tc (u F aaB) (j a aaB)
  ·obtain⟨q1,c,d,n,e,o,g⟩:=gC m rfl;obtain rfl:=er.1 q1;obtain rfl:=er.1 c;obtain⟨a,b,rfl⟩:=lE d;obtain rfl:=e rfl;obtain rfl:=g rfl;exact .Ta (j a aaB) (j b aaB)
  ·obtain⟨q1,c,d,n,e,o,g⟩:=gC m rfl;obtain rfl:=er.1 q1;obtain rfl:=er.1 c;obtain⟨a,rfl⟩:=gr d;obtain rfl:=e rfl;exact .all (.inl rfl) (o rfl) (j a aaB)
  ·obtain⟨q1,c,d,n,e,o,g⟩:=gC m rfl;obtain⟨t,rfl⟩:=gr q1;obtain rfl:=er.1 c;obtain⟨a,rfl⟩:=gr d;obtain rfl:=e rfl;obtain rfl:=g rfl;exact .Y2 (.inl rfl) (r t aaB) (j a aaB)
  ·obtain⟨q1,c,d,n,e,o,g⟩:=gC m rfl;obtain⟨t,rfl⟩:=gr q1;obtain⟨F,rfl⟩:=gr c;obtain⟨a,rfl⟩:=gr d;obtain rfl:=e rfl;obtain rfl:=g rfl;exact .ex (.inl rfl) (r t aaB) (u F aaB) (j a aaB)
  ·obtain⟨q1,c,d,n,e,o,g⟩:=gC m rfl;obtain rfl:=er.1 q1;obtain rfl:=er.1 c;obtain⟨a,b,rfl⟩:=lE d;obtain rfl:=e rfl;obtain rfl:=g rfl;exact .Ys (.inl rfl) (j a aaB) (j b aaB)
  ·obtain⟨q1,c,d,n,e,o,g⟩:=gC m rfl;obtain rfl:=er.1 q1;obtain rfl:=er.1 c;obtain⟨a,rfl⟩:=gr d;obtain rfl:=e rfl;exact .all (.inr rfl) (o rfl) (j a aaB)
  ·obtain⟨q1,c,d,n,e,o,g⟩:=gC m rfl;obtain⟨t,rfl⟩:=gr q1;obtain rfl:=er.1 c;obtain⟨a,rfl⟩:=gr d;obtain rfl:=e rfl;obtain rfl:=g rfl;exact .Y2 (.inr rfl) (r t aaB) (j a aaB)
  ·obtain⟨q1,c,d,n,e,o,g⟩:=gC m rfl;obtain⟨t,rfl⟩:=gr q1;obtain⟨F,rfl⟩:=gr c;obtain⟨a,rfl⟩:=gr d;obtain rfl:=e rfl;obtain rfl:=g rfl;exact .ex (.inr rfl) (r t aaB) (u F aaB) (j a aaB)
  ·obtain⟨q1,c,d,n,e,o,g⟩:=gC m rfl;obtain rfl:=er.1 q1;obtain rfl:=er.1 c;obtain⟨a,b,rfl⟩:=lE d;obtain rfl:=e rfl;obtain rfl:=g rfl;exact .Ys (.inr rfl) (j a aaB) (j b aaB)
  ·obtain⟨q1,c,d,n,e,o,g⟩:=gC m rfl;obtain⟨t,rfl⟩:=gr q1;obtain⟨F,rfl⟩:=gr c;obtain⟨a,b,rfl⟩:=lE d;obtain rfl:=e rfl;obtain rfl:=g rfl;exact .ind (.inl rfl) (r t aaB) (u F aaB) (j a aaB) (j b aaB)
  ·obtain⟨q1,c,d,n,e,o,g⟩:=gC m rfl;obtain⟨t,rfl⟩:=gr q1;obtain⟨F,rfl⟩:=gr c;obtain⟨a,b,rfl⟩:=lE d;obtain rfl:=e rfl;obtain rfl:=g rfl;exact .ind (.inr rfl) (r t aaB) (u F aaB) (j a aaB) (j b aaB)
  ·obtain⟨q1,c,d,n,e,o,g⟩:=gC m rfl;obtain⟨t,rfl⟩:=gr q1;obtain rfl:=er.1 c;obtain rfl:=er.1 d;obtain rfl:=e rfl;obtain rfl:=g rfl;exact .refl (r t aaB)
  ·obtain⟨q1,c,d,n,e,o,g⟩:=gC m rfl;obtain rfl:=er.1 q1;obtain⟨F,rfl⟩:=gr c;obtain⟨a,b,rfl⟩:=lE d;obtain rfl:=e rfl;obtain rfl:=g rfl;exact .subst (u F aaB) (j a aaB) (j b aaB)
  ·obtain⟨q1,c,d,n,e,o,g⟩:=gC m rfl;obtain rfl:=er.1 q1;obtain rfl:=er.1 c;obtain⟨a,rfl⟩:=gr d;obtain rfl:=e rfl;obtain rfl:=g rfl;exact .choice (j a aaB)
structure TR (d d':cY) (s:Bool) (n:Nat):Prop where
 lo:d.agl<=d'.agl
 hi:d'.agl<=d.agl+n
 eq:s=true->d'.agl=d.agl+n
 hR:d'.hR=(d.hR||!s)
def TR.trans{d c a:cY}{s e:Bool}{n n':Nat}(h:TR d c s n)(b:TR c a e n'):TR d a (s&&e) (n+n'):=by
 refine⟨by have:=h.lo;have:=b.lo;omega,by have:=h.hi;have:=b.hi;omega,λhs=>?_,?_⟩
 ·rw[ez] at hs;have:=h.eq hs.1;have:=b.eq hs.2;omega
 ·rw[b.hR,h.hR,Bool.not_and,Bool.or_assoc]
def r_{α:Type}{F:Int->α->cY->Option (eu cY (Bool×cY))}(ok small:α->Bool)(sz:α->Nat):∀(l:List α) (i:Nat) (d:cY),0<=d.agl->d.agl+cU sz l<=4000000000->(∀(j:Int) (x:α) (d:cY),x∈l->0<=d.agl->d.agl+sz x<=4000000000->if ok x then∃a,F j x d=some (.next a)/\TR d a (small x) (sz x)else∃a,F j x d=some (.ret (false,a)))->if l.all ok then∃a,dP F l i d=some (.inl a)/\TR d a (l.all small) (cU sz l)else∃a,dP F l i d=some (.inr (false,a))
 |[],i,d,_,_,_=>⟨d,rfl,⟨VW,by simp[cU],λ_=>by simp[cU],aaB⟩⟩|x::l,i,d,m,n,h=>by
  simp only[cU] at n;have b:=h i x d aaB m VW;rw[sC]
  by_cases c:ok x=true
  ·rw[cK c] at b;obtain⟨d1,e,f⟩:=b;have g:=r_ ok small sz l (i+1) d1 (by have:=f.lo;omega) (by have:=f.hi;omega) (λj y d hy=>h j y d (by simp[hy]));rw[dq,e];simp only[cv,dr,cU]
   by_cases k:l.all ok=true
   ·rw[cK k] at g;obtain⟨d2,o,p⟩:=g;rw[cK (by rw[ez];exact⟨c,k⟩)];exact⟨d2,o,f.trans p⟩
   ·grind
  ·rw[cI c] at b;obtain⟨d1,e⟩:=b;rw[cI (by rw[ez];exactλh=>c h.1),dq,e];exact⟨d1,rfl⟩
def B7{d:cY}{n e:Int}(a:-1000000000000<=d.agl+n)(b:d.agl+n<=1000000000000):fP d n e=some (dw e 2,⟨d.agl+n,d.hR||dm e 4⟩):=by
 unfold fP;rw[ds VW VW];cases d.hR<;>rfl
def Tm.yb(t:Tm):t.err=2/\t.ok=false\/t.ok=true/\J' t=true/\t.err=0\/t.ok=true/\J' t=false/\t.err=4:=by
 unfold Tm.err J';cases h:t.ok with
 |false=>grind|true=>grind
def Fm.yb(t:Fm):t.err=2/\t.ok=false\/t.ok=true/\M5 t=true/\t.err=0\/t.ok=true/\M5 t=false/\t.err=4:=by
 unfold Fm.err M5;cases h:t.ok with
 |false=>grind|true=>grind
def AB{sz:Nat}{e:Int}{ok small:Bool}(c:e=2/\ok=false\/ok=true/\small=true/\e=0\/ok=true/\small=false/\e=4)(hs:sz<=1000000000){d:cY}(f:0<=d.agl)(g:d.agl+sz<=4000000000):if ok then∃b,(cX (fP d (if e=0 then(sz:Int)else 0) e) λa d179=>if a then some (.next d179)else some ((.ret (false,d179)):eu cY (Bool×cY)))=some (.next b)/\TR d b small sz else∃b,(cX (fP d (if e=0 then(sz:Int)else 0) e) λa d179=>if a then some (.next d179)else some ((.ret (false,d179)):eu cY (Bool×cY)))=some (.ret (false,b)):=by
 rcases c with⟨rfl,rfl⟩|⟨rfl,rfl,rfl⟩|⟨rfl,rfl,rfl⟩
 ·exact⟨_,rfl⟩
 ·rw[cK rfl,cK rfl,B7 VW VW,cH,cK aaa];refine⟨_,rfl,⟨?_,?_,λ_=>rfl,?_⟩⟩
  all_goals grind[dm]
 ·rw[cK rfl,cI aaa,B7 VW VW,cH,cK aaa];refine⟨_,rfl,⟨?_,?_,λh=>by(cases h),?_⟩⟩
  all_goals grind[dm]
def AY{f:Bool}{i a b c d nf e:Int}:eH true (eH (pP i 0) true (eH (dw i 0) (eH f (eH (dw d a) true (eH (dw nf b) true (dw e c))) true) (eH (dw d a) true (eH (dw nf b) true (dw e c))))) true=true↔¬(d=a/\nf=b/\e=c/\0<=i/\(f=true\/i=0)):=by
 grind[yL,ja,dw,v7,gH]
def AW{d:Bool}{i a b c e nf f:Int}:eH true (eH (dw e a) true (eH (dw nf b) true (eH (dw f c) true (eH (pP i 0) true (eH d false (dw i 0)))))) true=true↔¬(e=a/\nf=b/\f=c/\0<=i/\(d=true\/i=0)):=by
 cases d with
 |true=>
  grind[yL,ja,gH,cV]
 |false=>grind[yL,v7,ja,gH,cV]
def Ld(ty:Bool)(s:Ty):Bool:=if ty then decide (s.err=0)else s.mg
theorem zz{k i:Int}{s:Ty}{d nf e:Nat}{f ty:Bool}{a b c:Nat}(hs:Pf.sig k=some (f,ty,a,b,c)):Pf.node k i s d nf e=true↔((d:Int)=a/\(nf:Int)=b/\(e:Int)=c/\0<=i/\(f=true\/i=0))/\Ld ty s=true:=by
 grind[Pf.node,Ld]
def TG(d:cY)(A s:Bool)(n:Nat)(o:Option (Bool×cY)):Prop:=(A=true->∃a,o=some (true,a)/\TR d a s n)/\(A=false->∃a,o=some (false,a))
theorem TG.no{d a:cY}{A s:Bool}{n:Nat}(h:A=false):TG d A s n (some (false,a)):=⟨λb=>(by rw[h] at b;cases b),λ_=>⟨a,rfl⟩⟩
def J1(n:Nat)(d:cY)(k i:Int)(s:Ty)(ts:List Tm)(g:List Fm)(l:List Pf):hP (n+1) d (.mk k i s ts g l)=(cX (oe k) λe G=>
 if(eH G (eH (pP i 0) true (eH (dw i 0) (eH e.agm (eH (dw (dn ts) e.dc) true (eH (dw (dn g) e.eo) true (dw (dn l) e.agk))) true) (eH (dw (dn ts) e.dc) true (eH (dw (dn g) e.eo) true (dw (dn l) e.agk))))) true) then(
 some (false,d))
 else(dj (λ(A:cY)=>
 fY (eg ts)<|dj (λ(H:Int) (B:Tm)=>(λ(a:cY)=>
 cX (jZ B) λh j=>
 cX (fP a h j) λm d179=>
 if m then(
 some (.next d179))
 else(some (.ret (false,d179)))):Int->Tm->(cY)->(Option (eu (cY) (Bool×cY)))) λo=>
 cG (dP o ts 0 A) (fi (λ(a:cY)=>
 fY (eg g)<|dj (λ(E:Int) (p:Fm)=>(λ(b:cY)=>
 cX (ik p) λq t=>
 cX (fP b q t) λu d322=>
 if u then(
 some (.next d322))
 else(some (.ret (false,d322)))):Int->Fm->(cY)->(Option (eu (cY) (Bool×cY)))) λv=>
 cG (dP v g 0 a) (fi (λ(b:cY)=>
 fY (eg l)<|dj (λ(F:Int) (w:Pf)=>(λ(c:cY)=>
 cX (hP n c w) λx f=>
 if x then(
 some (.next f))
 else(some (.ret (false,f)))):Int->Pf->(cY)->(Option (eu (cY) (Bool×cY)))) λy=>
 cG (dP y l 0 b) (fi (λ(c:cY)=>
 some (true,c)) (λr=>some r))) (λr=>some r))) (λr=>some r))) λz=>
 if e.typed then(
 cX (je s) λI C=>
 if(dw C 0) then(
 some (false,(cY.mk (dR .i64 d.agl 1) d.hR)))
 else(z (cY.mk (dR .i64 d.agl 1) d.hR)))
 else(cG (og s) λD=>
 if D then(
 z (cY.mk (dR .i64 d.agl 1) d.hR))
 else(some (false,(cY.mk (dR .i64 d.agl 1) d.hR)))))):=by
 rw[hP];rfl
def Nz:∀(n:Nat) (P:Pf) (d:cY),P.wt<=n->P.wt<=1000000000->0<=d.agl->d.agl+P.agl<=4000000000->TG d P.ok P.small P.agl (hP n d P):=by
 intro n
 induction n with
 |zero=>intro P d h;have:=P.fO;omega
 |succ n ih=>
  intro P d hn hb h0 hd;cases P with
  |mk k i s ts p l=>
   rw[Pf.dC] at hn hb;rw[Pf.cJ] at hd|-;have aa:=eG Tm.wt ts λt _=>t.fO;have ab:=eG Fm.wt p λt _=>t.fO;have ad:=eG Pf.wt l λt _=>t.fO;have m1:=gP (l:=ts) (λx _=>Tm.fp x);have m2:=gP (l:=p) (λx _=>Fm.fp x);have m3:=gP (l:=l) (λx _=>Pf.fp x);rw[Pf.eD,Pf.rH,J1];rcases JZ k with⟨I,r,K⟩|⟨ix,ty,a,b,c,r,I,K,g1,g2,g3,g4,g5⟩
   ·rw[K,cH,v7,cK rfl];exact TG.no (by simp[Pf.node,I])
   ·rw[K,cH,g1,g2,g3,g4,g5,dz,dz,dz]
    by_cases J:(ts.length:Int)=a/\(p.length:Int)=b/\(l.length:Int)=c/\0<=i/\(ix=true\/i=0)
    ·rw[cI (λh=>AY.1 h J)]
     have q:Pf.node k i s ts.length p.length l.length=Ld ty s:=by
      rw[xi,zz I];exact⟨λh=>h.2,λh=>⟨J,h⟩⟩
     rw[q];cases f:Ld ty s with
     |false=>
      have e:∀j:cY->Option (Bool×cY),(if ty then cX (je s) λae L=>if(dw L 0) then some (false,(cY.mk (dR .i64 d.agl 1) d.hR))else j (cY.mk (dR .i64 d.agl 1) d.hR)else cG (og s) λM=>if M then j (cY.mk (dR .i64 d.agl 1) d.hR)else some (false,(cY.mk (dR .i64 d.agl 1) d.hR)))=some (false,(cY.mk (dR .i64 d.agl 1) d.hR)):=by grind[Ld,dw,cV,im,cH,m4,cv]
      refine lx (λ_=>False) (λ_ h=>h.elim) (λj _=>?_);rw[e j];exact TG.no aaB
     |true=>
      refine lx (λd1=>d1.agl=d.agl+1/\d1.hR=d.hR) (λd1 g=>?_) (λj hj=>?_)
      ·have t1:=r_ (F:=λ(af:Int) (N:Tm)=>(λ(u:cY)=>cX (jZ N) λv w=>cX (fP u v w) λy d179=>if y then some (.next d179)else some (.ret (false,d179)))) Tm.ok J' Tm.agl ts 0 d1 VW VW (λj x d m q0 q1=>by
        have:=c6 Tm.wt m;have:=x.fp;rw[mI VW,cH]
        exact AB x.yb VW q0 q1)
       rw[cT VW,cL,cN];cases a1:ts.all Tm.ok with
       |false=>
        rw[a1,cI aaa] at t1;obtain⟨d2,O⟩:=t1;rw[O,cv,mV];exact TG.no aaB
       |true=>
        rw[a1,cK rfl] at t1;obtain⟨d2,O,Q⟩:=t1;have u1:=Q.lo;have u2:=Q.hi;rw[O,cv,cS,cT VW,cL,cN]
        have t2:=r_ (F:=λ(W:Int) (z:Fm)=>(λ(A:cY)=>cX (ik z) λB C=>cX (fP A B C) λD d322=>if D then some (.next d322)else some (.ret (false,d322)))) Fm.ok M5 Fm.agl p 0 d2 VW VW (λj x d m q0 q1=>by
         have:=c6 Fm.wt m;have:=x.fp;rw[k7 VW,cH]
         exact AB x.yb VW q0 q1)
        cases a2:p.all Fm.ok with
        |false=>
         rw[a2,cI aaa] at t2;obtain⟨d3,R⟩:=t2;rw[R,cv,mV];exact TG.no aaB
        |true=>
         rw[a2,cK rfl] at t2;obtain⟨d3,R,S⟩:=t2;have u3:=S.lo;have u4:=S.hi;rw[R,cv,cS,cT VW,cL,cN]
         have t3:=r_ (F:=λ(X:Int) (E:Pf)=>(λ(G:cY)=>cX (hP n G E) λH o=>if H then some (.next o)else some (.ret (false,o)))) Pf.ok Pf.small Pf.agl l 0 d3 VW VW (λj x d m q0 q1=>by
          have:=c6 Pf.wt m;have:=c6 Pf.agl m;have:=x.fp;have m:=ih x d VW VW q0 VW;cases Y:x.ok with
          |true=>
           obtain⟨T,U,w2⟩:=m.1 Y;rw[cK rfl,U,cH,cK rfl];exact⟨T,rfl,w2⟩
          |false=>
           obtain⟨T,U⟩:=m.2 Y;rw[cI aaa,U,cH,cI aaa]
           exact⟨T,rfl⟩)
         cases a3:l.all Pf.ok with
         |false=>
          rw[a3,cI aaa] at t3;obtain⟨d4,V⟩:=t3;rw[V,cv,mV];exact TG.no aaB
         |true=>
          rw[a3,cK rfl] at t3;obtain⟨d4,V,r4⟩:=t3;rw[V,cv,cS];refine⟨λ_=>⟨d4,rfl,?_⟩,λh=>by simp at h⟩;have r0:TR d d1 true 1:=⟨VW,VW,λ_=>by omega,by simp[g.2]⟩;have:=((r0.trans Q).trans S).trans r4;rw[uQ] at this;exact this
      ·have g:=hj (cY.mk (dR .i64 d.agl 1) d.hR) ⟨by show dR .i64 d.agl 1=_;rw[ds VW VW],rfl⟩;unfold Ld at f
       by_cases Z:ty=true
       ·rw[cK Z] at f|-
        have hz:¬dw s.err 0=true:=by rw[cV];simpa using f
        rw[im VW,cH,cI hz];exact g
       ·rw[cI Z] at f|-;rw[m4,cv,f,cK rfl];exact g
    ·rw[cK (AY.2 J)];refine TG.no ?_
     have:Pf.node k i s ts.length p.length l.length=false:=by
      rw[H5]
      exactλh=>J ((zz I).1 h).1
     rw[this];simp
def rQ{P:Pf}(h:P.wt<=1000000000):r6 P=some P.err:=by
 have hn:=P.fp;have b:=Nz FU P (cY.mk 0 false) (by rw[dp];omega) h (by show(0:Int)<=0;omega) (by show(0:Int)+_<=_;omega);unfold r6 sH Pf.err;cases c:P.ok with
 |false=>
  obtain⟨a,e⟩:=b.2 c
  grind[cH]
 |true=>
  obtain⟨a,e,r⟩:=b.1 c;rw[e,cH,cK rfl,cK rfl];have d:a.hR=!P.small:=r.hR;rw[d,ja];cases hs:P.small with
  |false=>grind[cH]|true=>
   have f:a.agl=(0:Int)+P.agl:=r.eq hs
   grind[ei,cH]
def Je(n:Nat)(k i:Int)(s:Ty)(ts:List Tm)(h:List Fm)(l:List Pf):nj (n+1) (.mk k i s ts h l)=(cX (oq k) λb w=>
 if(eH w (eH (dw (dn ts) b.dc) true (eH (dw (dn h) b.eo) true (eH (dw (dn l) b.agk) true (eH (pP i 0) true (eH b.agm false (dw i 0)))))) true) then(
 some false)
 else(dj (λ(j:Bool)=>
 if j then(
 some false)
 else(fY (eg ts)<|dj (λ(x:Int) (m:Tm)=>(λ(_:Unit)=>
 cG (kh FU m) λo=>
 if o then(
 some (.next ()))
 else(some (.ret false))):Int->Tm->(Unit)->(Option (eu (Unit) (Bool)))) λp=>
 cG (dP p ts 0 ()) (fi (λ(_:Unit)=>
 fY (eg h)<|dj (λ(y:Int) (q:Fm)=>(λ(_:Unit)=>
 cG (mo FU q) λc=>
 if c then(
 some (.next ()))
 else(some (.ret false))):Int->Fm->(Unit)->(Option (eu (Unit) (Bool)))) λd=>
 cG (dP d h 0 ()) (fi (λ(_:Unit)=>
 fY (eg l)<|dj (λ(v:Int) (e:Pf)=>(λ(_:Unit)=>
 cG (nj n e) λf=>
 if f then(
 some (.next ()))
 else(some (.ret false))):Int->Pf->(Unit)->(Option (eu (Unit) (Bool)))) λg=>
 cG (dP g l 0 ()) (fi (λ(_:Unit)=>
 some true) (λr=>some r))) (λr=>some r))) (λr=>some r)))) λa=>
 if b.rf then(
 cG (iA s) λt=>
 if(dw t 0) then(
 a true)
 else(a false))
 else(cG (qN s) λu=>
 a (m9 u)))):=by
 rw[nj];rfl
def AZ:∀(n:Nat) (P:Pf),P.wt<=n->P.wt<=1000000000->nj n P=some P.ok:=by
 intro n
 induction n with
 |zero=>intro P h;have:=P.fO;omega
 |succ n w=>
  intro P hn y;cases P with
  |mk k i s ts f l=>
   rw[Pf.dC] at hn y;have z:=eG Tm.wt ts λt _=>t.fO;have A:=eG Fm.wt f λt _=>t.fO;have B:=eG Pf.wt l λt _=>t.fO;rw[Pf.eD,Je];rcases HL k with⟨p,r,q⟩|⟨C,ty,a,b,c,r,p,q,g1,g2,g3,g4,g5⟩
   ·rw[q,cH,v7,cK rfl];simp[Pf.node,p]
   ·rw[q,cH,g1,g2,g3,g4,g5,dz,dz,dz]
    by_cases u:(ts.length:Int)=a/\(f.length:Int)=b/\(l.length:Int)=c/\0<=i/\(C=true\/i=0)
    ·rw[cI (λh=>AW.1 h u)]
     have e:Pf.node k i s ts.length f.length l.length=Ld ty s:=by
      rw[xi,zz p];exact⟨λh=>h.2,λh=>⟨u,h⟩⟩
     rw[e];refine lx (G:=λo=>o=some (Ld ty s&&ts.all Tm.ok&&f.all Fm.ok&&l.all Pf.ok)) (λv=>v=!Ld ty s) (λv D=>?_) (λj E=>?_)
     ·rw[D];cases Ld ty s with
      |false=>rfl|true=>
       rw[cI aaa,cT VW,cL,cN,l5 Tm.ok false ts 0 (λj x m=>by
        have:=c6 Tm.wt m
        rw[sl VW,cv]),uQ]
       cases ts.all Tm.ok with
       |false=>rfl|true=>
        rw[cK rfl,cv,cS,cT VW,cL,cN,l5 Fm.ok false f 0 (λj x m=>by
         have:=c6 Fm.wt m
         rw[tO FU x (by rw[dp];omega) VW,cv]),uQ]
        cases f.all Fm.ok with
        |false=>rfl|true=>
         rw[cK rfl,cv,cS,cT VW,cL,cN,l5 Pf.ok false l 0 (λj x m=>by
          have:=c6 Pf.wt m
          rw[w x VW VW,cv]),uQ]
         cases l.all Pf.ok with
         |false=>rfl|true=>rfl
     ·have d:=E (!Ld ty s) rfl;unfold Ld at d|-
      by_cases g:ty=true
      ·rw[cK g] at d;rw[cK g,cK g,jd VW,cv]
       grind[dw,cV]
      ·rw[cI g] at d;rw[cI g,cI g,qX,cv,Pu];exact d
    ·rw[cK (AW.2 u)]
     grind[Pf.node,zz]
def tW:∀(n:Nat) (P:Pf),P.wt<=n->P.wt<=1000000000->rY n P=some P.small:=by
 intro n
 induction n with
 |zero=>intro P h;have:=P.fO;omega
 |succ n c=>
  intro P hn d;cases P with
  |mk k i s ts b l=>
   rw[Pf.dC] at hn d;have e:=eG Tm.wt ts λt _=>t.fO;have f:=eG Fm.wt b λt _=>t.fO;have g:=eG Pf.wt l λt _=>t.fO;rw[Pf.rH,rY];simp only[Pf.eN,Pf.yJ,Pf.cZ,cN]
   rw[cT VW,cL,l5 J' false ts 0 (λj x a=>by
    have:=c6 Tm.wt a;have:=x.fp;rw[j_ FU x (by rw[dp];omega) VW,cv]
    by_cases hs:x.agl<=4096
    ·grind[ei,J']
    ·rw[cK (by rw[ei];omega),cI (by simpa[J'] using hs)])]
   cases ts.all J' with
   |false=>rfl|true=>
    rw[cK rfl,cv,cS,cT VW,cL,l5 M5 false b 0 (λj x a=>by
     have:=c6 Fm.wt a;have:=x.fp;rw[mW FU x (by rw[dp];omega) VW,cv]
     by_cases hs:x.agl<=4096
     ·rw[cI (by rw[ei];omega),cK (show M5 x=true from qk hs)]
     ·rw[cK (by rw[ei];omega),cI (by simpa[M5] using hs)]),uQ]
    cases b.all M5 with
    |false=>rfl|true=>
     rw[cK rfl,cv,cS,cT VW,cL,l5 Pf.small false l 0 (λj x a=>by
      have:=c6 Pf.wt a
      rw[c x VW VW,cv]),uQ]
     cases l.all Pf.small with
     |false=>rfl|true=>rfl
theorem th:∀(n:Nat) (P:Pf),P.wt<=n->P.wt<=1000000000->rV n P=some (P.agl:Int):=by
 intro n
 induction n with
 |zero=>intro P h;have:=P.fO;omega
 |succ n c=>
  intro P hn d;cases P with
  |mk k i s ts b l=>
   rw[Pf.dC] at hn d;have e:=eG Tm.wt ts λt _=>t.fO;have f:=eG Fm.wt b λt _=>t.fO;have g:=eG Pf.wt l λt _=>t.fO;have m:=gP (l:=ts) (λx _=>Tm.fp x);have o:=gP (l:=b) (λx _=>Fm.fp x);have p:=gP (l:=l) (λx _=>Pf.fp x);rw[Pf.cJ,rV];simp only[Pf.eN,Pf.yJ,Pf.cZ,cN]
   rw[cT VW,cL,show(1:Int)=((1:Nat):Int)from rfl,ll Tm.agl ts 0 1 VW (λj x v a=>by
    have:=c6 Tm.wt a;have:=x.fp
    rw[j_ FU x (by rw[dp];omega) VW,cv]),cv,cS,cT VW,cL,ll Fm.agl b 0 _ VW (λj x v a=>by
    have:=c6 Fm.wt a;have:=x.fp
    rw[mW FU x (by rw[dp];omega) VW,cv]),cv,cS,cT VW,cL,ll Pf.agl l 0 _ VW (λj x v a=>by
    have:=c6 Pf.wt a
    rw[c x VW VW,cv]),cv,cS]
def oz{P:Pf}(h:P.wt<=1000000000):qw P=some P.err:=by
 unfold qw tm Pf.err;rw[AZ FU P (by rw[dp];omega) h,cv];cases P.ok with
 |false=>rfl|true=>
  rw[cK rfl,cK rfl,cN,tW FU P (by rw[dp];omega) h,cv];cases P.small with
  |false=>rfl|true=>grind[th,FU,dp,cv,r']
def Pf.My{P:Pf}(h:P.err=0):tf P/\P.agl<=16384:=by
 unfold Pf.err at h;cases b:P.ok with
 |false=>grind|true=>
  by_cases a:P.small=true/\P.agl<=16384
  ·exact⟨P.w b a.1,a.2⟩
  ·grind
end Go.ek
