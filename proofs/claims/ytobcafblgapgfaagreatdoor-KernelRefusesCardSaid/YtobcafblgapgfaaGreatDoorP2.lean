/- Part of the proof of KernelRefuses: plain facts. -/
import Derived.Test.YtobcafblgapgfaaGreatDoorP1
set_option linter.all false
namespace Go.gV
open Go
mutual
noncomputable def Fm.vW:Fm->List Ty->Int
 |.mk k s ts l,g=>if fO (ts.map λt=>pN t g 1)=0 then Fm.Ss l (if k7 k=true then g++[s] else g)else fO (ts.map λt=>pN t g 1)
noncomputable def Fm.Ss:List Fm->List Ty->Int
 |[],_=>0|f::l,g=>if f.vW g=0 then Fm.Ss l g else f.vW g
end
def Fm.O8(g:List Ty):∀l:List Fm,Fm.Ss l g=fO (l.map λf=>f.vW g)
 |[]=>by rw[Fm.Ss];rfl|f::l=>by rw[Fm.Ss,Fm.O8 g l];rfl
def Fm.uq(k:Int)(s:Ty)(ts:List Tm)(l:List Fm)(g:List Ty):(Fm.mk k s ts l).vW g=if fO (ts.map λt=>pN t g 1)=0 then fO (l.map λf=>f.vW (if k7 k=true then g++[s] else g))else fO (ts.map λt=>pN t g 1):=by
 rw[Fm.vW,Fm.O8]
def zX{t:Tm}{g:List Ty}(a:t.ok=true)(hn:t.acO<=4096)(hg:iV g)(b:g.length<=900000):qp g t=some (t.ty g):=by
 unfold qp;have hw:=t.jC a;rw[ni (by omega)]
 have he:t.err=0:=by unfold Tm.err;rw[ee a,ea (by omega)]
 rw[he];simp only[cl];rw[ea (by decide),z7 FU t (by have:=fC;omega) a g hg (by omega)];rfl
def Ju{t:Tm}{g:List Ty}(f:t.ok=true)(hn:t.acO<=4096)(hg:iV g)(i:g.length<=900000):(ej (qp g t) λd a=>if(eW a 0)=true then(some (.ret a))else(if(eW d.acM 1)=true then(some (.ret 7))else(some (.next ()))):Option (gw Unit Int))=
   if pN t g 1≠0 then some (.ret (pN t g 1))else some (.next ()):=by
 rw[zX f hn hg i];unfold pN;generalize t.ty g=q;obtain⟨r,e⟩:=q;simp only[eb,ew]
 by_cases b:e=0
 ·subst b
  by_cases c:r.acM=1
  ·rw[ea (by simp),ea (by simp[c]),ea (show¬((0:Int)=0/\r.acM≠1)fromλh=>h.2 c),ea (by simp)]
  ·rw[ea (by simp),ee c,ee (show(0:Int)=0/\r.acM≠1 from⟨rfl,c⟩),ee (by decide)]
 ·rw[ee b,ea (show¬(e=0/\r.acM≠1)fromλh=>b h.1),ee b]
def td{e:Int}:(cv (some e) λa=>if(eW a 0)=true then(some (.ret a))else(some (.next ())):Option (gw Unit Int))=if e≠0 then some (.ret e)else some (.next ()):=by
 rw[cl]
 by_cases h:e=0
 ·subst h;rfl
 ·rw[ee (by simpa[eW] using h),ee h]
def vQ{l:List Int}{k:Unit⊕Int->Option Int}(h:k=gm (λ_=>some 0) (λr=>some r)):cv (if fO l=0 then some (.inl ())else some (.inr (fO l))) k=some (fO l):=by
 subst h
 by_cases h:fO l=0
 ·rw[ee h,h];rfl
 ·rw[ea h];rfl
def zS(f:Fm)(v:f.ok=true):∀n,f.acO<=n->∀g,iV g->g.length+f.acO<=900000->f.acO<=4096->mN n g f=some (f.vW g):=by
 refine Fm.pA (p:=λf=>∀n,f.acO<=n->∀g,iV g->g.length+f.acO<=900000->f.acO<=4096->mN n g f=some (f.vW g)) ?_ ?_ ?_ f v
 ·intro a b l u n hn g hg c d;rw[Fm.ef] at hn c d;simp only[ez] at hn c d;obtain⟨n,rfl⟩:∃m,n=m+1:=⟨n-1,by omega⟩;rw[mN,Fm.uq];simp only[eA,Fm.hY,Fm.eF,Fm.eM,mz,cl]
  rw[eC (by simp),eo,lD (λt=>pN t g 1) [a,b] 0 (λj x e=>by
   simp only[l7,Nx,Ux] at e;rcases e with rfl|rfl
   ·exact Ju l (by omega) hg (by omega)
   ·exact Ju u (by omega) hg (by omega))]
  rw[show k7 1=false from rfl]
  by_cases h:fO ([a,b].map λt=>pN t g 1)=0
  ·rw[ee h,ee h];rfl
  ·rw[ea h,ea h];rfl
 ·intro k a b o l u i q n hn g hg c d;rw[Fm.ef] at hn c d;simp only[ez] at hn c d;obtain⟨n,rfl⟩:∃m,n=m+1:=⟨n-1,by omega⟩
  have r:k7 k=false:=by rcases o with rfl|rfl<;>rfl
  rw[mN,Fm.uq];simp only[eA,Fm.hY,Fm.eF,Fm.eM,mz,cl,r,aaf,fO]
  rw[eC (by simp),eo,pw,cl,en,ea (by decide),ee trivial,eC (by simp),eo,lD (λf=>f.vW g) [a,b] 0 (λj x e=>by
   simp only[l7,Nx,Ux] at e;rcases e with rfl|rfl
   ·rw[i n (by omega) g hg (by omega) (by omega)];exact td
   ·rw[q n (by omega) g hg (by omega) (by omega)];exact td)]
  exact vQ rfl
 ·intro k s a o hs l i n hn g hg c d;rw[Fm.ef] at hn c d;simp only[ez] at hn c d;obtain⟨n,rfl⟩:∃m,n=m+1:=⟨n-1,by omega⟩
  have r:k7 k=true:=by rcases o with rfl|rfl|rfl|rfl<;>rfl
  rw[mN,Fm.uq];simp only[eA,Fm.hY,Fm.eF,Fm.eM,Fm.ft,mz,cl,r,aaf,fO];rw[eC (by simp),eo,pw,cl,en];simp only[if_true]
  rw[fA (by simp;omega),eo,g_,eC (by simp),eo,lD (λf=>f.vW (g++[s])) [a] 0 (λj x e=>by
   simp only[l7,Nx,Ux] at e;subst e
   rw[i n (by omega) (g++[s]) (hg.app hs) (by simp;omega) (by omega)];exact td)]
  exact vQ rfl
def sH{g:List Ty}{s:Ty}(hs:s.err=0)(a:g.length<=900000):gI (g.map tk) [s]=some ((g++[s]).map tk):=by
 unfold gI oP;simp only[eA];rw[eC (by simp),eo,fl,lO hs];simp only[cl];rw[fA (by simp),eo];simp only[cl,fv,pw,en,g_,pk];rw[fA (by simp;omega),eo,Af]
def Ex{t:Tm}{g:List Ty}(b:t.ok=true)(hn:t.acO<=4096)(hg:iV g)(c:g.length<=900000):(cv (iM (g.map tk) t) λa=>if(eW a 0)=true then(some (.ret a))else(some (.next ())):Option (gw Unit Int))=if pN t g 1≠0 then some (.ret (pN t g 1))else some (.next ()):=by
 rw[xu b hg (by omega)];exact td
def wJ(f:Fm)(A:f.ok=true):∀n,f.acO<=n->∀g,iV g->g.length+f.acO<=900000->f.acO<=4096->eX n (g.map tk) f=some (f.vW g):=by
 refine Fm.pA (p:=λf=>∀n,f.acO<=n->∀g,iV g->g.length+f.acO<=900000->f.acO<=4096->eX n (g.map tk) f=some (f.vW g)) ?_ ?_ ?_ f A
 ·intro a b u y n hn g hg c d;rw[Fm.ef] at hn c d;simp only[ez] at hn c d;obtain⟨n,rfl⟩:∃m,n=m+1:=⟨n-1,by omega⟩;rw[eX,Fm.uq];simp only[eA,Fm.hY,Fm.eF]
  rw[ea (by simp),ea (by simp),ea (by simp),eC (by simp),eo,lD (λt=>pN t g 1) [a,b] 0 (λj x e=>by
   simp only[l7,Nx,Ux] at e;rcases e with rfl|rfl
   ·exact Ex u (by omega) hg (by omega)
   ·exact Ex y (by omega) hg (by omega))]
  rw[vQ rfl]
  by_cases h:fO ([a,b].map λt=>pN t g 1)=0
  ·rw[ee h,h];rfl
  ·rw[ea h]
 ·intro k a b l u y o v n hn g hg c d;rw[Fm.ef] at hn c d;simp only[ez] at hn c d;obtain⟨n,rfl⟩:∃m,n=m+1:=⟨n-1,by omega⟩
  have w:k7 k=false:=by rcases l with rfl|rfl<;>rfl
  have B:fW (eH k 4) true (eH k 5)=false:=by rcases l with rfl|rfl<;>rfl
  have k2:fW (eH k 6) true (eH k 7)=false:=by rcases l with rfl|rfl<;>rfl
  have C:fW (eH k 2) true (eH k 3)=true:=by rcases l with rfl|rfl<;>rfl
  rw[eX,Fm.uq];simp only[eA,Fm.hY,Fm.eF,w,aaf,fO];rw[ea (by simp only[Fm.eM,B];decide),ea (by simp only[Fm.eM,k2];decide),ee (by simp only[Fm.eM,C])];simp only[if_true,tQ,QL]
  rw[eC (by simp),eo,lD (λf=>f.vW g) [a,b] 0 (λj x e=>by
   simp only[l7,Nx,Ux] at e;rcases e with rfl|rfl
   ·rw[o n (by omega) g hg (by omega) (by omega)];exact td
   ·rw[v n (by omega) g hg (by omega) (by omega)];exact td)]
  exact vQ rfl
 ·intro k s a l hs u o n hn g hg c d;rw[Fm.ef] at hn c d;simp only[ez] at hn c d;obtain⟨n,rfl⟩:∃m,n=m+1:=⟨n-1,by omega⟩
  have w:k7 k=true:=by rcases l with rfl|rfl|rfl|rfl<;>rfl
  rw[eX,Fm.uq];simp only[eA,Fm.hY,Fm.eF,Fm.ft,w,aaf,fO,sH hs (show g.length<=900000 by omega),cl,if_true]
  have fin:(hO (fm [a])<|cv (fo (λ(z:Int) (q:Fm)=>(λ(_:Unit)=>
    cv (eX n ((g++[s]).map tk) q) λi=>
    if(eW i 0)=true then(
    some (.ret i))
    else(some (.next ()))):Int->Fm->(Unit)->(Option (gw (Unit) (Int)))) [a] 0 ()) (gm (λ(_:Unit)=>some 0) (λr=>some r)))=some (fO ([a].map λf=>f.vW (g++[s]))):=by
   rw[eC (by simp),eo,lD (λf=>f.vW (g++[s])) [a] 0 (λj x e=>by
    simp only[l7,Nx,Ux] at e;subst e
    rw[o n (by omega) (g++[s]) (hg.app hs) (by simp;omega) (by omega)];exact td)]
   exact vQ rfl
  rcases l with rfl|rfl|rfl|rfl
  ·rw[ee (by simp)];exact fin
  ·rw[ee (by simp)];exact fin
  ·rw[ea (by simp),ee (by simp)];exact fin
  ·rw[ea (by simp),ee (by simp)];exact fin
mutual
def Fm.up(f b:Int):Fm->Fm
 |.mk k s ts l=>.mk k s (ts.map (Tm.up f b)) (Fm.UX (f+qB k) b l)
def Fm.UX(f b:Int):List Fm->List Fm
 |[]=>[]|t::l=>t.up f b::Fm.UX f b l
end
def Fm.Nz(f b:Int)(l:List Fm):Fm.UX f b l=l.map (Fm.up f b):=by
 induction l with
 |nil=>rfl|cons t l a=>simp[Fm.UX,a]
def Fm.kl(f b k:Int)(s:Ty)(ts:List Tm)(l:List Fm):(Fm.mk k s ts l).up f b=.mk k s (ts.map (Tm.up f b)) (l.map (Fm.up (f+qB k) b)):=by rw[Fm.up,Fm.Nz]
mutual
def Fm.acS(m:Int):Fm->Bool
 |.mk _ _ ts l=>ts.all (Tm.acS m)&&Fm.yh m l
def Fm.yh(m:Int):List Fm->Bool
 |[]=>true|t::l=>t.acS m&&Fm.yh m l
end
def Fm.Et(m:Int)(l:List Fm):Fm.yh m l=l.all (Fm.acS m):=by
 induction l with
 |nil=>rfl|cons t l a=>simp[Fm.yh,a]
theorem Fm.fX(m k:Int)(s:Ty)(ts:List Tm)(l:List Fm):(Fm.mk k s ts l).acS m=(ts.all (Tm.acS m)&&l.all (Fm.acS m)):=by rw[Fm.acS,Fm.Et]
mutual
def Fm.acU(a:Int):Fm->Nat
 |.mk k _ ts l=>ez (Tm.acU a) ts+Fm.yj (a+qB k) l
def Fm.yj(a:Int):List Fm->Nat
 |[]=>0|t::l=>t.acU a+Fm.yj a l
end
def Fm.DL(a:Int)(l:List Fm):Fm.yj a l=ez (Fm.acU a) l:=by
 induction l with
 |nil=>rfl|cons t l b=>simp[Fm.yj,ez,b]
def Fm.gG(a k:Int)(s:Ty)(ts:List Tm)(l:List Fm):(Fm.mk k s ts l).acU a=ez (Tm.acU a) ts+ez (Fm.acU (a+qB k)) l:=by rw[Fm.acU,Fm.DL]
mutual
def Fm.jF:Int->Fm->Tm->Fm
 |n,.mk k ty ts l,s=>.mk k ty (ts.map λx=>Tm.jF n x s) (Fm.KL (n+qB k) l s)
def Fm.KL:Int->List Fm->Tm->List Fm
 |_,[],_=>[]|n,t::l,s=>Fm.jF n t s::Fm.KL n l s
end
def Fm.KO(n:Int)(s:Tm)(l:List Fm):Fm.KL n l s=l.map (λx=>Fm.jF n x s):=by
 induction l with
 |nil=>rfl|cons t l a=>simp[Fm.KL,a]
def Fm.kV(n:Int)(s:Tm)(k:Int)(ty:Ty)(ts:List Tm)(l:List Fm):Fm.jF n (Fm.mk k ty ts l) s=.mk k ty (ts.map λx=>Tm.jF n x s) (l.map λx=>Fm.jF (n+qB k) x s):=by rw[Fm.jF,Fm.KO]
def Fm.jf(t:Fm):∀a,t.acU a<=t.acO:=by
 induction t using Fm.ind with
 |h k s ts l b=>
  intro a;rw[Fm.gG,Fm.ef];have:=kP (f:=Fm.acU (a+qB k)) (g:=Fm.acO) (l:=l) λx c=>b x c _;have:=kP (f:=Tm.acU a) (g:=Tm.acO) (l:=ts) λx _=>x.jf _;omega
theorem Fm.q9(t:Fm):∀f b,(t.up f b).acO=t.acO:=by
 induction t using Fm.ind with
 |h k s ts l a=>
  intro f b;rw[Fm.kl,Fm.ef,Fm.ef,qn,qn,rA λx c=>a x c _ _,rA λx _=>Tm.q9 x f b]
theorem Fm.Hr(t:Fm):∀f b,(t.up f b).wt=t.wt:=by
 induction t using Fm.ind with
 |h k s ts l a=>
  intro f b;rw[Fm.kl,Fm.fM,Fm.fM,qn,qn,rA λx c=>a x c _ _,rA λx _=>Tm.Hr x f b]
theorem Fm.Jy(t:Fm):∀f b,0<=f->0<=b->(t.up f b).ok=t.ok:=by
 induction t using Fm.ind with
 |h k s ts l c=>
  intro f b d a;have:=Ch k;rw[Fm.kl,Fm.ia,Fm.ia,GU,GU,xi λx e=>c x e (f+qB k) b (by omega) a,xi λx _=>Tm.Jy x f b d a]
def LI{α:Type}{a b c:α->Nat}{m:Nat}{l:List α}(h:∀x∈l,a x+b x=c x+b x*m):ez a l+ez b l=ez c l+ez b l*m:=by
 induction l with
 |nil=>simp[ez]|cons y l d=>
  have f:=h y (by simp);have g:=d λx e=>h x (by simp[e]);simp only[ez,AR];omega
def Fm.r7(s:Tm)(t:Fm):∀n,t.ok=true->(Fm.jF n t s).acO+t.acU n=t.acO+t.acU n*s.acO:=by
 induction t using Fm.ind with
 |h k ty ts l f=>
  intro n d;rw[Fm.ia] at d;simp only[gO,ll] at d;rw[Fm.kV,Fm.gG,Fm.ef,Fm.ef,qn,qn,AR];have g:=LI (l:=ts) (a:=λx=>(Tm.jF n x s).acO) (b:=Tm.acU n) (c:=Tm.acO) (m:=s.acO) λx e=>Tm.r7 s x n (d.1.2 x e);have i:=LI (l:=l) (a:=λx=>(Fm.jF (n+qB k) x s).acO) (b:=Fm.acU (n+qB k)) (c:=Fm.acO) (m:=s.acO) λx e=>f x e _ (d.2 x e);omega
def CV{t:Tm}(m:Int)(h:t.acO<=1000000000):ld FU t m=some (t.acS m):=zC FU t m (by rw[fC];exact h) h
def Hd:∀(n:Nat) (t:Fm) (m:Int),t.acO<=n->t.acO<=1000000000->oR n t m=some (t.acS m):=by
 intro n
 induction n with
 |zero=>intro t m h;have:=t.eP;omega
 |succ n c=>
  intro t m h d;cases t with
  |mk k s ts l=>
   rw[Fm.ef] at h d;have g:=Fm.fK l;have e:=Tm.fK ts
   have f:fo (ρ:=Bool) (λ(_:Int) (x:Tm) (_:Unit)=>cv (ld FU x m) λa=>if a=true then some (gw.next ())else some (gw.ret false)) ts 0 ()=if ts.all (Tm.acS m)=true then some (.inl ())else some (.inr false):=by
    refine rm (Tm.acS m) _ ts 0 ?_;intro j x b;have:=eJ Tm.acO b;rw[CV m (by omega)];rfl
   have k2:fo (ρ:=Bool) (λ(_:Int) (x:Fm) (_:Unit)=>cv (oR n x m) λa=>if a=true then some (gw.next ())else some (gw.ret false)) l 0 ()=if l.all (Fm.acS m)=true then some (.inl ())else some (.inr false):=by
    refine rm (Fm.acS m) _ l 0 ?_;intro j x b;have:=eJ Fm.acO b;rw[c x m (by omega) (by omega)];rfl
   rw[oR];simp only[Fm.eF,Fm.hY,eA,eC (l:=l) (by omega),eC (l:=ts) (by omega),eo,f,k2,Fm.fX];cases i:ts.all (Tm.acS m)<;>cases o:l.all (Fm.acS m)<;>simp
def ui:∀(n:Nat) (t:Fm) (f b:Int),t.acO<=n->t.acO<=1000000000->0<=f->f+t.acO<=10000000000->0<=b->b<=10000000000->t.acS 1000000000000=true->hI n t f b=some (t.up f b):=by
 intro n
 induction n with
 |zero=>intro t f b h;have:=t.eP;omega
 |succ n o=>
  intro t f b h d p e i a hi;cases t with
  |mk k s ts l=>
   rw[Fm.ef] at h d e;rw[Fm.fX] at hi;simp only[gO,ll] at hi;have r:=Fm.fK l;have q:=Tm.fK ts;have u:=Ch k;rw[hI];simp only[Fm.eF,Fm.hY,Fm.eM,Fm.ft,eA,eC (l:=l) (by omega),eC (l:=ts) (by omega),eo];rw[jq (Tm.up f b) ts 0 [] (by simp;omega)]
   ·simp only[cl,en];rw[jq (Fm.up (f+qB k) b) l 0 [] (by simp;omega)]
    ·simp[Fm.kl]
    ·intro j x v c g;have:=eJ Fm.acO c;rw[qm];simp only[cl,Fm.eM];rw[fu (by omega) (by omega),o x (f+qB k) b (by omega) (by omega) (by omega) (by omega) i a (hi.2 x c)];simp[fA (l:=v) (m:=[x.up (f+qB k) b]) (by simpa using g)]
   ·intro j x v c g;have:=eJ Tm.acO c;rw[zO FU x f b (by rw[fC];omega) (by omega) p (by omega) i a (hi.1 x c)];simp[fA (l:=v) (m:=[x.up f b]) (by simpa using g)]
def Gz:∀(n:Nat) (t:Fm) (a:Int),t.acO<=n->t.acO<=1000000000->0<=a->a+t.acO<=10000000000->oN n t a=some (t.acU a:Int):=by
 intro n
 induction n with
 |zero=>intro t a h;have:=t.eP;omega
 |succ n g=>
  intro t a h c i d;cases t with
  |mk k s ts l=>
   rw[Fm.ef] at h c d;have q:=Fm.fK l;have m:=Tm.fK ts;have r:=Ch k;have o:ez (Fm.acU (a+qB k)) l<=ez Fm.acO l:=kP λx _=>x.jf _;have f:ez (Tm.acU a) ts<=ez Tm.acO ts:=kP λx _=>x.jf _;rw[oN];simp only[Fm.eF,Fm.hY,Fm.eM,eA,eC (l:=l) (by omega),eC (l:=ts) (by omega),eo]
   have p:=p0 (ρ:=Int) (F:=λ(_:Int) (x:Tm) (v:Int)=>cv (mK FU x a) λy=>some (gw.next (fk .i64 v y))) (Tm.acU a) ts 0 0 (by omega) (by
    intro j x v e;have:=eJ Tm.acO e;rw[zg FU x a (by rw[fC];omega) (by omega) i (by omega)]
    rfl)
   have k2:=p0 (ρ:=Int) (F:=λ(_:Int) (x:Fm) (v:Int)=>cv (nY (Fm.mk k s ts l)) λb=>cv (oN n x (fk .i64 a b)) λy=>some (gw.next (fk .i64 v y))) (Fm.acU (a+qB k)) l 0 (0+ez (Tm.acU a) ts) (by omega) (by
    intro j x v e;have:=eJ Fm.acO e;rw[qm];simp only[cl,Fm.eM];rw[fu (by omega) (by omega),g x _ (by omega) (by omega) (by omega) (by omega)]
    rfl)
   rw[show(0:Int)=((0:Nat):Int)from rfl,p];simp only[cl,en];rw[k2];simp[Fm.gG]
def Mc:∀(n:Nat) (t:Fm) (a b:Int) (s:Tm),t.acO<=n->t.acO<=1000000000->0<=a->0<=b->a+b+t.acO<=5000000000->t.acS 1000000000000=true->t.ok=true->s.acO<=1000000000->s.acS 1000000000000=true->vy n t a b s=some (Fm.jF (a+b) t s):=by
 intro n
 induction n with
 |zero=>intro t a b s h;have:=t.eP;omega
 |succ n p=>
  intro t a b s h f o q g hi c hs e;cases t with
  |mk k ty ts l=>
   rw[Fm.ef] at h f g;rw[Fm.fX] at hi;rw[Fm.ia] at c;simp only[gO,ll] at hi c;have u:=Fm.fK l;have r:=Tm.fK ts;have w:=Ch k;rw[vy];simp only[Fm.eF,Fm.hY,Fm.eM,Fm.ft,eA,eC (l:=l) (by omega),eC (l:=ts) (by omega),eo];rw[jq (λx=>Tm.jF (a+b) x s) ts 0 [] (by simp;omega)]
   ·simp only[cl,en];rw[jq (λx=>Fm.jF (a+b+qB k) x s) l 0 [] (by simp;omega)]
    ·simp[Fm.kV]
    ·intro j x v d i;have:=eJ Fm.acO d;rw[qm];simp only[cl,Fm.eM];rw[fu (by omega) (by omega),p x a (b+qB k) s (by omega) (by omega) o (by omega) (by omega) (hi.2 x d) (c.2 x d) hs e];rw[show a+(b+qB k)=a+b+qB k by omega];simp[fA (l:=v) (m:=[Fm.jF (a+b+qB k) x s]) (by simpa using i)]
   ·intro j x v d i;have:=eJ Tm.acO d;rw[EZ FU x a b s (by rw[fC];omega) (by omega) o q (by omega) (hi.1 x d) (c.1.2 x d) hs e];simp[fA (l:=v) (m:=[Tm.jF (a+b) x s]) (by simpa using i)]
def Fm.m6(t:Fm):∀{m n:Int},m<=n->t.acS m=true->t.acS n=true:=by
 induction t using Fm.ind with
 |h k s ts l c=>
  intro m n a h;rw[Fm.fX] at*;simp only[gO,ll] at*;exact⟨λx b=>Tm.m6 x a (h.1 x b),λx b=>c x b a (h.2 x b)⟩
def jV.acS{g:List Ty}{f:Fm}(h:jV g f):∀m:Int,((g.length+f.acO:Nat):Int)<=m->f.acS m=true:=by
 induction h with
 |eq c d=>
  intro m hm;simp only[Fm.ef,ez] at hm;simp only[Fm.fX,wu,U2,A1,gO];exact⟨c.acS m (by omega),d.acS m (by omega)⟩
 |two _ _ _ a b=>
  intro m hm;simp only[Fm.ef,ez] at hm;simp only[Fm.fX,wu,U2,A1,gO,AO];exact⟨a m (by omega),b m (by omega)⟩
 |q _ _ _ e=>
  intro m hm;simp only[Fm.ef,ez] at hm;simp only[Fm.fX,wu,U2,A1,AO];exact e m (by simp;omega)
def Tm.IG(φ:Int->Int->Tm)(b:Int):Tm->Tm
 |.mk k i s l=>if k=1 then φ i b else .mk k i s (l.attach.map λx=>Tm.IG φ (b+gk k) x.1)
decreasing_by
 have:=Ub x.2;simp only[Tm.mk.sizeOf_spec];omega
def Tm.zq(φ:Int->Int->Tm)(b k i:Int)(s:Ty)(l:List Tm):(Tm.mk k i s l).IG φ b=if k=1 then φ i b else .mk k i s (l.map (Tm.IG φ (b+gk k))):=by
 rw[Tm.IG]
 congr 2
 exact UI
def xU(k b:Int)(a:-1000000000000<=b)(c:b<=1000000000000):fW (eH k 2) (fk .i64 b 1) b=b+gk k:=by
 unfold gk
 by_cases h:k=2
 ·subst h;rw[show eH 2 2=true from rfl,ee rfl];exact fu (by omega) (by omega)
 ·rw[show eH k 2=false by simpa[eH] using h,ea h];show b=b+0;omega
def wy{h:Int->Int->Option Tm}{φ:Int->Int->Tm}{M:Int}(y:∀i b,0<=i->i<=M->0<=b->b<=10000000000->h i b=some (φ i b)):∀(n:Nat) (t:Tm) (b:Int),t.acO<=n->t.acO<=50000000->t.ok=true->t.acS M=true->0<=b->b+t.acO<=10000000000->ib n t b (λ(s:Unit) (g:Int) (m:Int)=>q8 (h g m) s) ()=some (t.IG φ b,()):=by
 intro n
 induction n with
 |zero=>intro t b h;have:=t.eP;omega
 |succ n z=>
  intro t b hn A o p B q;cases t with
  |mk k i s l=>
   rw[Tm.ef] at hn A q;have hlen:=Tm.fK l;have e:=o;rw[Tm.ia,gO] at o;have C:=Ty.wW o.1;rw[Tm.fX,gO,CY,ll] at p;rw[ib,Tm.zq]
   by_cases r:k=1
   ·subst r;have hi:=(Tm.lB e).2.1;rw[ee (by rfl),ee rfl];simp only[Tm.gl];rw[y i b hi p.1 B (by omega),E9,eb]
   ·rw[ea (by simpa[eH] using r),ea r];simp only[Tm.ft,Tm.eF,Tm.eM,Tm.gl,eA];rw[pJ (by omega),cl,eC (by omega),eo,xU k b (by omega) (by omega)];have D:=lI k
    have loop:∀(ts:List Tm) (j:Nat) (v:List Tm),(∀t∈ts,t∈l)->v.length+ts.length<=50000000->fo (λ(E:Int) (w:Tm)=>(uD λ(a:List Tm) (v107:Unit)=>
       ej (ib n w (b+gk k) (λ(s:Unit) (g:Int) (m:Int)=>q8 (h g m) s) v107) λc f=>
       hO (gy a [c])<|some ((.next ((gU a [c]),f)):gw ((List Tm)×Unit) (Tm×Unit)))) ts j (v,())=some (.inl (v++ts.map (Tm.IG φ (b+gk k)),())):=by
     intro ts
     induction ts with
     |nil=>intro j v _ _;simp|cons t ts x=>
      intro j v hm F;simp only[l5] at F;have d:=hm t (by simp);have G:=eJ Tm.acO d;rw[fl];simp only[uD];rw[z t (b+gk k) (by omega) (by omega) ((Tm.lB e).2.2.2.1 t d) (p.2 t d) (by omega) (by omega),eb,fA (by simp;omega),eo];simp only[cl,fv];rw[g_];have:=x (j+1) (v++[t.IG φ (b+gk k)]) (λu hu=>hm u (by simp[hu])) (by simp;omega);rw[this];simp
    rw[loop l 0 [] (λt h=>h) (by simp;omega),cl];simp
structure Bd (t:Tm):Prop where
 ok:t.ok=true
 acS:t.acS 1000000000000=true
 acO:t.acO<=50000000
def Tm.OV(f c:Int)(n:0<=f):∀(t:Tm) (b:Int),0<=b->t.ok=true->t.IG (λi b=>.mk 1 (if f<=i-b then i+c else i) (.mk 0 []) []) b=t.up (f+b) c:=by
 intro t
 induction t using Tm.ind with
 |h k i s l g=>
  intro b o a;have hi:=Tm.lB a;rw[Tm.zq,Tm.kl]
  by_cases d:k=1
  ·subst d;rw[ee rfl]
   have j:l=[]:=by
    have:=hi.2.2.2.2;unfold iN at this;rw[ee (.inl rfl)] at this;exact Dt (by omega)
   have hs:s=.mk 0 []:=by
    rw[Tm.ia] at a;simp only[Tm.node,gO] at a;have:=a.1.2;rw[ea (by decide)] at this;exact(Ty.mR s).1 this
   subst j;subst hs;simp only[aaf,ZZ]
   congr 1
   by_cases h:f+b<=i
   ·rw[ee h,ee (by omega)]
   ·rw[ea h,ea (by omega)]
  ·rw[ea d,ea (λh=>d h.1)];have m:=lI k
   congr 1
   exact uQ λx e=>by rw[g x e (b+gk k) (by omega) (hi.2.2.2.1 x e),show f+(b+gk k)=f+b+gk k by omega]
def Cb{t:Tm}{f c:Int}(h:Bd t)(d:0<=f)(e:f<=10000000000)(m:0<=c)(g:c<=10000000000):rP t f c=some (t.up f c):=by
 unfold rP oW;rw[wy (h:=λj k=>uf j k f c) (φ:=λi b=>.mk 1 (if f<=i-b then i+c else i) (.mk 0 []) []) (M:=1000000000000) (λi b n o p q=>?_) FU t 0 (by have:=fC;have:=h.acO;omega) h.acO h.ok h.acS (by omega) (by have:=h.acO;omega)]
 ·rw[eb,eb,Tm.OV f c d t 0 (by omega) h.ok,show f+0=f by omega]
 ·unfold uf iP;simp only[cl];rw[fF (by omega) (by omega),fu (by omega) (by omega)]
  by_cases a:f<=i-b
  ·rw[ee a,show ue (i-b) f=true by rw[iX];exact a];rfl
  ·rw[ea a,show ue (i-b) f=false by
    cases l:ue (i-b) f with
    |false=>rfl|true=>exact absurd ((iX _ _).1 l) a];rfl
def oS(k:Int):nI k=some (k7 k):=by
 unfold nI k7;rw[rv];simp only[ue,LP,tC];rw[<-Bool.decide_and];exact CM.2 (by simp only[CY];omega)
def Fm.rf{k:Int}{s:Ty}{ts:List Tm}{l:List Fm}(h:(Fm.mk k s ts l).ok=true):s.acO<=64/\(∀t∈ts,t.ok=true)/\(∀f∈l,f.ok=true):=by
 rw[Fm.ia] at h;simp only[gO,ll] at h;refine⟨?_,h.1.2,h.2⟩;have hn:=h.1.1;unfold Fm.node at hn
 split at hn
 ·simp only[gO] at hn;rw[(Ty.mR s).1 hn.1.1,Ty.ef];simp[ez]
 ·split at hn
  ·simp only[gO] at hn;rw[(Ty.mR s).1 hn.1.1,Ty.ef];simp[ez]
  ·simp only[gO,nA] at hn;exact fB hn.1.1.2
def Fm.IG(ψ:Tm->Int->Tm)(b:Int):Fm->Fm
 |.mk k s ts l=>.mk k s (ts.map λt=>ψ t b) (l.attach.map λx=>Fm.IG ψ (b+qB k) x.1)
decreasing_by
 have:=Ub x.2;simp only[Fm.mk.sizeOf_spec];omega
def Fm.zq(ψ:Tm->Int->Tm)(b k:Int)(s:Ty)(ts:List Tm)(l:List Fm):(Fm.mk k s ts l).IG ψ b=.mk k s (ts.map λt=>ψ t b) (l.map (Fm.IG ψ (b+qB k))):=by
 rw[Fm.IG]
 congr 1
 exact UI
def oZ{h:Tm->Int->Option Tm}{ψ:Tm->Int->Tm}(J:∀t b,Bd t->0<=b->b<=1000000000->h t b=some (ψ t b)):∀(n:Nat) (f:Fm) (b:Int),f.acO<=n->f.acO<=50000000->f.ok=true->f.acS 1000000000000=true->0<=b->b+f.acO<=1000000000->fq n f b (λ(s:Unit) (q:Tm) (w:Int)=>q8 (h q w) s) ()=some (f.IG ψ b,()):=by
 intro n
 induction n with
 |zero=>intro f b h;have:=f.eP;omega
 |succ n K=>
  intro f b hn L M A N B;cases f with
  |mk k s ts l=>
   rw[Fm.ef] at hn L B;have O:=iA Tm.acO ts λt _=>t.eP;have P:=iA Fm.acO l λt _=>t.eP;obtain⟨Q,C,D⟩:=Fm.rf M;rw[Fm.fX,gO,ll,ll] at A;rw[fq,Fm.zq];simp only[Fm.ft,Fm.eF,Fm.eM,Fm.hY,eA];rw[pJ (by omega),cl,eC (by omega),eo];have R:=Ch k
   have m:∀(us:List Tm) (j:Nat) (v:List Tm),(∀t∈us,t∈ts)->v.length+us.length<=50000000->fo (λ(S:Int) (E:Tm)=>(uD λ(v91:List Tm) (F:Unit)=>
      ej (q8 (h E b) F) λi x=>
      hO (gy v91 [i])<|some ((.next ((gU v91 [i]),x)):gw ((List Tm)×Unit) (Fm×Unit)))) us j (v,())=some (.inl (v++us.map (λt=>ψ t b),())):=by
    intro us
    induction us with
    |nil=>intro j v _ _;simp|cons t us o=>
     intro j v hm G;simp only[l5] at G;have d:=hm t (by simp);have H:=eJ Tm.acO d;rw[fl];simp only[uD];rw[J t b ⟨C t d,A.1 t d,by omega⟩ N (by omega),E9,eb,fA (by simp;omega),eo];simp only[cl,fv];rw[g_];have:=o (j+1) (v++[ψ t b]) (λu hu=>hm u (by simp[hu])) (by simp;omega);rw[this];simp
   rw[m ts 0 [] (λt h=>h) (by simp;omega),cl];simp only[en,uD];rw[oS,cl]
   have p:∀(us:List Fm) (j:Nat) (v:List Fm),(∀t∈us,t∈l)->v.length+us.length<=50000000->fo (λ(y:Int) (e:Fm)=>(uD λ(a:List Fm) (v212:Unit)=>
      ej (fq n e (b+qB k) (λ(s:Unit) (q:Tm) (w:Int)=>q8 (h q w) s) v212) λc g=>
      hO (gy a [c])<|some ((.next ((gU a [c]),g)):gw ((List Fm)×Unit) (Fm×Unit)))) us j (v,())=some (.inl (v++us.map (Fm.IG ψ (b+qB k)),())):=by
    intro us
    induction us with
    |nil=>intro j v _ _;simp|cons t us o=>
     intro j v hm G;simp only[l5] at G;have d:=hm t (by simp);have H:=eJ Fm.acO d;rw[fl];simp only[uD];rw[K t (b+qB k) (by omega) (by omega) (D t d) (A.2 t d) (by omega) (by omega),eb,fA (by simp;omega),eo];simp only[cl,fv];rw[g_];have:=o (j+1) (v++[t.IG ψ (b+qB k)]) (λu hu=>hm u (by simp[hu])) (by simp;omega);rw[this];simp
   have fin:(hO (fm l)<|cv (fo (λ(y:Int) (e:Fm)=>(uD λ(a:List Fm) (v212:Unit)=>
      ej (fq n e (b+qB k) (λ(s:Unit) (q:Tm) (w:Int)=>q8 (h q w) s) v212) λc g=>
      hO (gy a [c])<|some ((.next ((gU a [c]),g)):gw ((List Fm)×Unit) (Fm×Unit)))) l 0 ([],())) (gm (uD λ(a:List Fm) (v212:Unit)=>some ((Fm.mk k s ([]++ts.map λt=>ψ t b) a),v212)) (λr=>some r)))=some (Fm.mk k s (ts.map λt=>ψ t b) (l.map (Fm.IG ψ (b+qB k))),()):=by
    rw[eC (by omega),eo,p l 0 [] (λt h=>h) (by simp;omega),cl];simp
   by_cases z:k7 k=true
   ·rw[ee z]
    have I:b+qB k=b+1:=by unfold qB;rw[ee z]
    rw[I] at fin|-;rw[fu (by omega) (by omega)];exact fin
   ·rw[ea z]
    have I:b+qB k=b:=by unfold qB;rw[ea z];omega
    rw[I] at fin|-;exact fin
def Fm.OV(f c:Int):∀(g:Fm) (b:Int),g.IG (λt b=>t.up (f+b) c) b=g.up (f+b) c:=by
 intro g
 induction g using Fm.ind with
 |h k s ts l a=>
  intro b;rw[Fm.zq,Fm.kl]
  congr 1
  exact uQ λx d=>by rw[a x d (b+qB k),show f+(b+qB k)=f+b+qB k by omega]
def uB{g:Fm}{f c:Int}(d:g.ok=true)(hn:g.acO<=50000000)(e:g.acS 1000000000000=true)(m:0<=f)(i:f<=1000000000)(j:0<=c)(a:c<=10000000000):fS g f c=some (g.up f c):=by
 unfold fS;rw[oZ (h:=λk l=>mX k l f c) (ψ:=λt b=>t.up (f+b) c) (λt b h n o=>?_) FU g 0 (by have:=fC;omega) hn d e (by omega) (by omega)]
 ·rw[eb,Fm.OV f c g 0,show f+0=f by omega]
 ·unfold mX;rw[fu (by omega) (by omega),Cb h (by omega) (by omega) j a];rfl
def Tm.S3{i:Int}{s:Ty}{l:List Tm}(a:(Tm.mk 1 i s l).ok=true):l=[]/\s=.mk 0 []:=by
 have hi:=Tm.lB a;constructor
 ·have:=hi.2.2.2.2;unfold iN at this;rw[ee (.inl rfl)] at this;exact Dt (by omega)
 ·rw[Tm.ia] at a;simp only[Tm.node,gO] at a;have:=a.1.2;rw[ea (by decide)] at this;exact(Ty.mR s).1 this
def Oj(a:Int)(s:Tm)(i b:Int):Tm:=if i-b=a then s.up 0 (a+b)else if a<i-b then .mk 1 (i-1) (.mk 0 []) [] else .mk 1 i (.mk 0 []) []
def Tm.Ky(a:Int)(s:Tm):∀(t:Tm) (b:Int),t.ok=true->t.IG (Oj a s) b=Tm.jF (a+b) t s:=by
 intro t
 induction t using Tm.ind with
 |h k i ty l j=>
  intro b d;have hi:=Tm.lB d;rw[Tm.zq,Tm.kV]
  by_cases c:k=1
  ·subst c;obtain⟨rfl,rfl⟩:=Tm.S3 d;rw[ee rfl,ee rfl];unfold Oj Tm.rG
   by_cases e:i-b=a
   ·rw[ee e,ee (by omega)]
   ·rw[ea e,ea (show¬i=a+b by omega)]
    by_cases f:a<i-b
    ·rw[ee f,ee (by omega)]
    ·rw[ea f,ea (by omega)]
  ·rw[ea c,ea c]
   congr 1
   exact uQ λx g=>by rw[j x g (b+gk k) (hi.2.2.2.1 x g),show a+(b+gk k)=a+b+gk k by omega]
def Gp(s:Tm):Prop:=∀c,0<=c->c<=10000000000->rP s 0 c=some (s.up 0 c)
def Bd.lift{s:Tm}(h:Bd s):Gp s:=λc a b=>Cb h (by omega) (by omega) a b
def Mb{t s:Tm}{a:Int}(h:Bd t)(hs:Gp s)(K:0<=a)(D:a<=1000000000):zG t a s=some (Tm.jF a t s):=by
 unfold zG oW;have hn:=h.acO
 have key:∀(n:Nat) (t:Tm) (b:Int),t.acO<=n->t.acO<=50000000->t.ok=true->t.acS 1000000000000=true->0<=b->b+t.acO<=1000000000->ib n t b (λ(f:Unit) (m:Int) (g:Int)=>q8 (o_ m g a s) f) ()=ib n t b (λ(f:Unit) (m:Int) (g:Int)=>q8 (if g<=1000000000 then o_ m g a s else some (Oj a s m g)) f) ():=by
  intro n
  induction n with
  |zero=>intro t b h;have:=t.eP;omega
  |succ n E=>
   intro t b hn r F C G y;cases t with
   |mk k i ty l=>
    rw[Tm.ef] at hn r y;rw[Tm.fX,gO,CY,ll] at C;have hi:=Tm.lB F;have H:=lI k;rw[ib,ib]
    by_cases z:k=1
    ·subst z;rw[ee (by rfl),ee (by rfl),ee (by omega)]
    ·rw[ea (by simpa[eH] using z),ea (by simpa[eH] using z)];simp only[Tm.ft,Tm.eF,Tm.eM,Tm.gl,eA];rw[xU k b (by omega) (by omega)]
     have loop:∀(ts:List Tm) (j:Nat) (v:List Tm),(∀t∈ts,t∈l)->fo (λ(A:Int) (p:Tm)=>(uD λ(d:List Tm) (v107:Unit)=>
        ej (ib n p (b+gk k) (λ(f:Unit) (m:Int) (g:Int)=>q8 (o_ m g a s) f) v107) λe o=>
        hO (gy d [e])<|some ((.next ((gU d [e]),o)):gw ((List Tm)×Unit) (Tm×Unit)))) ts j (v,())=fo (λ(A:Int) (p:Tm)=>(uD λ(d:List Tm) (v107:Unit)=>
        ej (ib n p (b+gk k) (λ(f:Unit) (m:Int) (g:Int)=>q8 (if g<=1000000000 then o_ m g a s else some (Oj a s m g)) f) v107) λe o=>
        hO (gy d [e])<|some ((.next ((gU d [e]),o)):gw ((List Tm)×Unit) (Tm×Unit)))) ts j (v,()):=by
      intro ts
      induction ts with
      |nil=>intro j v _;rfl|cons t ts B=>
       intro j v hm;have q:=hm t (by simp);have I:=eJ Tm.acO q;rw[fl,fl];simp only[uD];rw[E t (b+gk k) (by omega) (by omega) (hi.2.2.2.1 t q) (C.2 t q) (by omega) (by omega)]
       congr 1
       funext c
       cases c with
       |next st=>
        obtain⟨J,u⟩:=st;exact B (j+1) J (λu hu=>hm u (by simp[hu]))
       |_=>rfl
     rw[loop l 0 [] (λt h=>h)]
 rw[key FU t 0 (by have:=fC;omega) hn h.ok h.acS (by omega) (by omega)];rw[wy (h:=λm g=>if g<=1000000000 then o_ m g a s else some (Oj a s m g)) (φ:=Oj a s) (M:=1000000000000) (λi b G L N O=>?_) FU t 0 (by have:=fC;omega) h.acO h.ok h.acS (by omega) (by omega)]
 ·rw[eb,eb,Tm.Ky a s t 0 h.ok,show a+0=a by omega]
 ·by_cases r:b<=1000000000
  ·rw[ee r];unfold o_ iP Oj;rw[fF (by omega) (by omega),fu (by omega) (by omega)]
   by_cases w:i-b=a
   ·rw[ee (by simpa[eH] using w),ee w,hs _ (by omega) (by omega)];rfl
   ·rw[ea (by simpa[eH] using w),ea w]
    by_cases x:a<i-b
    ·rw[ee (by rw[gW];exact x),ee x,fF (by omega) (by omega)];rfl
    ·rw[ea (by rw[gW];exact x),ea x];rfl
  ·rw[ea r]
def Fm.Ky(a:Int)(s:Tm):∀(g:Fm) (b:Int),g.IG (λt b=>Tm.jF (a+b) t s) b=Fm.jF (a+b) g s:=by
 intro g
 induction g using Fm.ind with
 |h k ty ts l c=>
  intro b;rw[Fm.zq,Fm.kV]
  congr 1
  exact uQ λx d=>by rw[c x d (b+qB k),show a+(b+qB k)=a+b+qB k by omega]
def vB{g:Fm}{s:Tm}{a:Int}(B:g.ok=true)(hn:g.acO<=50000000)(I:g.acS 1000000000000=true)(hs:Gp s)(P:0<=a)(J:a<=100000000):lj g a s=some (Fm.jF a g s):=by
 unfold lj
 have key:∀(n:Nat) (f:Fm) (b:Int),f.acO<=n->f.acO<=50000000->f.ok=true->0<=b->b+f.acO<=100000000->fq n f b (λ(i:Unit) (p:Tm) (m:Int)=>q8 (jy p m a s) i) ()=fq n f b (λ(i:Unit) (p:Tm) (m:Int)=>q8 (if m<=100000000 then jy p m a s else some (Tm.jF (a+m) p s)) i) ():=by
  intro n
  induction n with
  |zero=>intro f b h;have:=f.eP;omega
  |succ n K=>
   intro f b hn C B L E;cases f with
   |mk k ty ts l=>
    rw[Fm.ef] at hn C E;obtain⟨_,_,F⟩:=Fm.rf B;have M:=Ch k;rw[fq,fq];simp only[Fm.ft,Fm.eF,Fm.eM,Fm.hY,eA,ee (show b<=100000000 by omega),oS,cl]
    have loop:∀(us:List Fm) (j:Nat) (v:List Fm) (x:Int),0<=x->x+ez Fm.acO l<=100000000->(∀t∈us,t∈l)->fo (λ(y:Int) (q:Fm)=>(uD λ(d:List Fm) (v212:Unit)=>
       ej (fq n q x (λ(i:Unit) (p:Tm) (m:Int)=>q8 (jy p m a s) i) v212) λe w=>
       hO (gy d [e])<|some ((.next ((gU d [e]),w)):gw ((List Fm)×Unit) (Fm×Unit)))) us j (v,())=fo (λ(y:Int) (q:Fm)=>(uD λ(d:List Fm) (v212:Unit)=>
       ej (fq n q x (λ(i:Unit) (p:Tm) (m:Int)=>q8 (if m<=100000000 then jy p m a s else some (Tm.jF (a+m) p s)) i) v212) λe w=>
       hO (gy d [e])<|some ((.next ((gU d [e]),w)):gw ((List Fm)×Unit) (Fm×Unit)))) us j (v,()):=by
     intro us
     induction us with
     |nil=>intro j v x _ _ _;rfl|cons t us G=>
      intro j v x z H hm;have A:=hm t (by simp);have N:=eJ Fm.acO A;rw[fl,fl];simp only[uD];rw[K t x (by omega) (by omega) (F t A) z (by omega)]
      congr 1
      funext c
      cases c with
      |next st=>
       obtain⟨O,u⟩:=st;exact G (j+1) O x z H (λu hu=>hm u (by simp[hu]))
      |_=>rfl
    congr 1
    funext Q
    congr 1
    congr 1
    funext o
    cases o with
    |inr r=>rfl|inl st=>
     obtain⟨v,u⟩:=st;simp only[en,uD]
     by_cases D:k7 k=true
     ·rw[ee D,ee D,fu (by omega) (by omega)];rw[show(([]:List Fm),u)=([],())from rfl,loop l 0 [] (b+1) (by omega) (by omega) (λt h=>h)]
     ·rw[ea D,ea D];rw[show(([]:List Fm),u)=([],())from rfl,loop l 0 [] b (by omega) (by omega) (λt h=>h)]
 rw[key FU g 0 (by have:=fC;omega) hn B (by omega) (by omega)];rw[oZ (h:=λp m=>if m<=100000000 then jy p m a s else some (Tm.jF (a+m) p s)) (ψ:=λt b=>Tm.jF (a+b) t s) (λt b h L R=>?_) FU g 0 (by have:=fC;omega) hn B I (by omega) (by omega)]
 ·rw[eb,Fm.Ky a s g 0,show a+0=a by omega]
 ·by_cases C:b<=100000000
  ·rw[ee C];unfold jy;rw[fu (by omega) (by omega),Mb h hs (by omega) (by omega)];rfl
  ·rw[ea C]
def Fc{a i b c:Int}(d:-1000000000000000<=i)(e:i<=1000000000000000)(f:0<=b)(g:b<=10000000000)(j:0<=c)(k:c<=10000000000):oV i b a c=some (c+if i-b=a then 1 else 0):=by
 unfold oV;rw[fF (by omega) (by omega)]
 by_cases h:i-b=a
 ·rw[ee (by simpa[eH] using h),ee h,fu (by omega) (by omega)]
 ·rw[ea (by simpa[eH] using h),ea h,wq]
def Fh(a:Int):∀(n:Nat) (t:Tm) (b c:Int),t.acO<=n->t.acO<=50000000->t.ok=true->t.acS 1000000000000=true->0<=b->b+t.acO<=1000000000->0<=c->c+t.acO<=1000000000->jW n t b (λ(s:Int) (f:Int) (g:Int)=>oV f g a s) c=some (c+(t.acU (a+b):Int)):=by
 intro n
 induction n with
 |zero=>intro t b c h;have:=t.eP;omega
 |succ n y=>
  intro t b c hn z A w B m x C;cases t with
  |mk k i s l=>
   rw[Tm.ef] at hn z m C;have hlen:=Tm.fK l;have hi:=Tm.lB A;rw[Tm.fX,gO,CY,ll] at w;have D:=lI k;rw[jW,Tm.gG];simp only[eA]
   have loop:∀(ts:List Tm) (j:Nat) (v:Int),(∀t∈ts,t∈l)->0<=v->v+ez Tm.acO ts<=1000000000->fo (λ(E:Int) (o:Tm)=>(λ(v28:Int)=>
      cv (jW n o (b+gk k) (λ(s:Int) (f:Int) (g:Int)=>oV f g a s) v28) λp=>
      some ((.next p):gw Int Int))) ts j v=some (.inl (v+(ez (Tm.acU (a+b+gk k)) ts:Int))):=by
    intro ts
    induction ts with
    |nil=>intro j v _ _ _;simp[ez]|cons t ts q=>
     intro j v hm v0 v1;simp only[ez] at v1|-;have d:=hm t (by simp);have F:=eJ Tm.acO d;have G:=t.jf (a+b+gk k);rw[fl,y t (b+gk k) v (by omega) (by omega) (hi.2.2.2.1 t d) (w.2 t d) (by omega) (by omega) v0 (by omega),show a+(b+gk k)=a+b+gk k by omega];simp only[cl,fv];rw[q (j+1) _ (λu hu=>hm u (by simp[hu])) (by omega) (by omega)]
     congr 2
     push_cast
     omega
   by_cases r:k=1
   ·subst r;rw[ee (show eH (Tm.mk 1 i s l).acM 1=true from rfl)];simp only[Tm.eF,Tm.eM,Tm.gl];rw[Fc (by omega) (by omega) B (by omega) x (by omega),cl,xU 1 b (by omega) (by omega),eC (by omega),eo];rw[loop l 0 _ (λt h=>h) (by split<;>omega) (by split<;>omega)];simp only[cl,en]
    congr 1
    by_cases e:i-b=a
    ·rw[ee e,ee (show True/\i=a+b from⟨trivial,by omega⟩)];omega
    ·rw[ea e,ea (show¬(True/\i=a+b)fromλh=>e (by omega))];omega
   ·rw[ea (show¬eH (Tm.mk k i s l).acM 1=true by simpa[eH] using r),ea (show¬(k=1/\i=a+b)fromλh=>r h.1)];simp only[Tm.eF,Tm.eM,Tm.gl];rw[xU k b (by omega) (by omega),eC (by omega),eo];rw[loop l 0 c (λt h=>h) x (by omega)];simp only[cl,en]
    congr 1
    push_cast
    omega
def Be{t:Tm}(a:Int)(h:Bd t):tq t a=some (t.acU a:Int):=by
 unfold tq rJ;have hn:=h.acO;rw[Fh a FU t 0 0 (by have:=fC;omega) hn h.ok h.acS (by omega) (by omega) (by omega) (by omega)];simp only[cl];rw[show a+0=a by omega,Int.zero_add]
def A2{a:Int}(U:0<=a)(H:a<=100000000):∀(n:Nat) (f:Fm) (b c:Int),f.acO<=n->f.acO<=50000000->f.ok=true->f.acS 1000000000000=true->0<=b->b+f.acO<=100000000->0<=c->c+f.acO<=1000000000->mP n f b (λ(s:Int) (p:Tm) (q:Int)=>jU p q s a) c=some (c+(f.acU (a+b):Int)):=by
 intro n
 induction n with
 |zero=>intro f b c h;have:=f.eP;omega
 |succ n I=>
  intro f b c hn J K r V w L M;cases f with
  |mk k s ts l=>
   rw[Fm.ef] at hn J w M;have N:=iA Tm.acO ts λt _=>t.eP;have O:=iA Fm.acO l λt _=>t.eP;obtain⟨_,y,z⟩:=Fm.rf K;rw[Fm.fX,gO,ll,ll] at r;have P:=Ch k;rw[mP,Fm.gG];simp only[Fm.eF,Fm.eM,Fm.hY,eA];rw[eC (by omega),eo]
   have i:∀(us:List Tm) (j:Nat) (v:Int),(∀t∈us,t∈ts)->0<=v->v+ez Tm.acO us<=1000000000->fo (λ(Q:Int) (A:Tm)=>(λ(B:Int)=>
      cv (jU A b B a) λC=>
      some ((.next C):gw Int Int))) us j v=some (.inl (v+(ez (Tm.acU (a+b)) us:Int))):=by
    intro us
    induction us with
    |nil=>intro j v _ _ _;simp[ez]|cons t us e=>
     intro j v hm v0 v1;simp only[ez] at v1|-;have d:=hm t (by simp);have D:=eJ Tm.acO d;have R:=t.jf (a+b);rw[fl];unfold jU at e|-;rw[fu (a:=a) (by omega) (by omega),Be (a+b) ⟨y t d,r.1 t d,by omega⟩];simp only[cl,fv];rw[fu (by omega) (by omega)];have:=e (j+1) (v+(t.acU (a+b):Int)) (λu hu=>hm u (by simp[hu])) (by omega) (by omega);rw[fu (a:=a) (by omega) (by omega)] at this;rw[this]
     congr 2
     push_cast
     omega
   rw[i ts 0 c (λt h=>h) L (by omega)];have S:=kP (f:=Tm.acU (a+b)) (g:=Tm.acO) (l:=ts) λx _=>x.jf _;simp only[cl,en];rw[oS,cl]
   have m:∀(us:List Fm) (j:Nat) (v:Int),(∀t∈us,t∈l)->0<=v->v+ez Fm.acO us<=1000000000->fo (λ(T:Int) (E:Fm)=>(λ(v72:Int)=>
      cv (mP n E (b+qB k) (λ(s:Int) (p:Tm) (q:Int)=>jU p q s a) v72) λF=>
      some ((.next F):gw Int Int))) us j v=some (.inl (v+(ez (Fm.acU (a+b+qB k)) us:Int))):=by
    intro us
    induction us with
    |nil=>intro j v _ _ _;simp[ez]|cons t us e=>
     intro j v hm v0 v1;simp only[ez] at v1|-;have d:=hm t (by simp);have D:=eJ Fm.acO d;have R:=t.jf (a+b+qB k);rw[fl,I t (b+qB k) v (by omega) (by omega) (z t d) (r.2 t d) (by omega) (by omega) v0 (by omega),show a+(b+qB k)=a+b+qB k by omega];simp only[cl,fv];rw[e (j+1) _ (λu hu=>hm u (by simp[hu])) (by omega) (by omega)]
     congr 2
     push_cast
     omega
   have fin:=m l 0 (c+(ez (Tm.acU (a+b)) ts:Int)) (λt h=>h) (by omega) (by omega)
   by_cases o:k7 k=true
   ·rw[ee o]
    have G:qB k=1:=by unfold qB;rw[ee o]
    rw[G] at fin|-;rw[fu (by omega) (by omega),eC (by omega),eo,fin];simp only[cl,en]
    congr 1
    push_cast
    omega
   ·rw[ea o]
    have G:qB k=0:=by unfold qB;rw[ea o]
    rw[G] at fin|-;rw[wq b] at fin;rw[eC (by omega),eo,fin];simp only[cl,en]
    congr 1
    push_cast
    omega
def qx{f:Fm}{a:Int}(c:f.ok=true)(hn:f.acO<=50000000)(d:f.acS 1000000000000=true)(e:0<=a)(b:a<=100000000):k5 f a=some (f.acU a:Int):=by
 unfold k5;rw[A2 e b FU f 0 0 (by have:=fC;omega) hn c d (by omega) (by omega) (by omega) (by omega)];simp only[cl];rw[show a+0=a by omega,Int.zero_add]
noncomputable def nj (f:Fm) (t:Tm):Fm×Int:=if 4096<(Fm.jF 0 f t).acO then(.mk 0 (.mk 0 []) [] [],4)else(Fm.jF 0 f t,0)
noncomputable def FW (f:Fm) (g:List Ty):Int:=if wZ g≠0 then wZ g else if f.err≠0 then f.err else f.vW g
def iV.of{g:List Ty}(h:wZ g=0):iV g/\g.length<=16:=by
 unfold wZ at h
 split at h
 ·cases h
 ·rename_i d;refine⟨λs hs=>?_,by omega⟩
  have key:∀l:List Ty,fO (l.map Ty.err)=0->∀s∈l,s.err=0:=by
   intro l
   induction l with
   |nil=>intro _ s hs;cases hs
   |cons a l c=>
    intro h s hs;simp only[wk,fO] at h
    by_cases b:a.err=0
    ·rw[ee b] at h;rcases l7.1 hs with rfl|hs
     ·exact b
     ·exact c h s hs
    ·rw[ea b] at h;exact absurd h b
  exact key g h s hs
def vP{g:List Ty}(hg:iV g)(c:g.length<=1000000):oP g=some (g.map tk):=by
 unfold oP;simp only[eA]
 rw[eC (by omega),eo,jq tk g 0 [] (by simp;omega) (λj x v a b=>by
  rw[lO (hg x a),cl,fA (by simpa using b),eo,g_])]
 simp
def ta{f:Fm}{g:List Ty}(hw:f.wt<=1000000000)(c:g.length<=1000000)(h:∀t∈g,t.acO<=1000000000):mM g f=some (FW f g):=by
 unfold mM FW;rw[xM g c h,cl]
 by_cases a:wZ g=0
 ·rw[ea (by rw[ew];simpa using a),ea (by simpa using a),ly hw,cl]
  by_cases he:f.err=0
  ·obtain⟨hg,d⟩:=iV.of a;obtain⟨b,hn⟩:=Fm.hZ he;rw[ea (by rw[ew];simpa using he),ea (by simpa using he),vP hg c,cl,wJ f b FU (by have:=fC;omega) g hg (by omega) hn];rfl
  ·rw[ee (by rw[ew];exact he),ee he]
 ·rw[ee (by rw[ew];exact a),ee a]
def vY{f:Fm}{g:List Ty}(hw:f.wt<=1000000000)(c:g.length<=1000000)(h:∀t∈g,t.acO<=1000000000):kz g f=some (FW f g):=by
 unfold kz lh FW;rw[tl g c h,cl]
 by_cases a:wZ g=0
 ·rw[ea (by rw[ew];simpa using a),ea (by simpa using a),m_ hw,cl]
  by_cases he:f.err=0
  ·obtain⟨hg,d⟩:=iV.of a;obtain⟨b,hn⟩:=Fm.hZ he;rw[ea (by rw[ew];simpa using he),ea (by simpa using he),zS f b FU (by have:=fC;omega) g hg (by omega) hn];rfl
  ·rw[ee (by rw[ew];exact he),ee he];rfl
 ·rw[ee (by rw[ew];exact a),ee a]
def Ia{f:Fm}{t:Tm}(he:f.err=0)(b:t.err=0)(g:f.acS 1000000000000=true)(d:t.acS 1000000000000=true):jh f t=some (nj f t):=by
 obtain⟨a,hn⟩:=Fm.hZ he;obtain⟨c,e⟩:=Tm.hZ b;have hw:=f.jC a;have j:=t.jC c;have n:=t.eP;have k:=f.jf 0;have l:=Fm.r7 t f 0 a;unfold jh nj;rw[qo (by omega),eb,so (by omega),eb,qx a (by omega) g (by omega) (by omega),cl,ee he,ee b];rw[fF (by omega) (by omega)]
 have hmul:(f.acU 0:Int)*((t.acO:Int)-1)=((f.acU 0*t.acO:Nat):Int)-(f.acU 0:Int):=by rw[aak,Zs];push_cast;rfl
 have m:f.acU 0*t.acO<=4096*4096:=XJ (by omega) e;have h:f.acU 0<=f.acU 0*t.acO:=P1 _ (by omega);rw[Ay (by rw[hmul];omega) (by rw[hmul];omega),hmul,fu (by omega) (by omega)]
 by_cases i:4096<(Fm.jF 0 f t).acO
 ·rw[ee (by rw[gW];omega),ee i]
 ·rw[ea (by rw[gW];omega),ea i,vB a (by omega) g (Bd.lift ⟨c,d,by omega⟩) (by omega) (by omega)];rfl
def Gw{f:Fm}{s:Tm}(he:f.err=0)(b:s.err=0)(h:f.acS 536870912=true)(c:s.acS 536870912=true)(d:(Fm.jF 0 f s).ok=true):xG f 0 s=some (nj f s):=by
 obtain⟨a,hn⟩:=Fm.hZ he;obtain⟨e,g⟩:=Tm.hZ b;have hw:=f.jC a;have k:=s.jC e;have l:=s.eP;have m:=f.jf 0;have n:=Fm.r7 s f 0 a;unfold xG nj;rw[m_ (by omega),he];simp only[cl,ew,ne_eq,QP,QL,eA,mD,gW,mm,p9];rw[ea (by omega),ni (by omega),b,Hd FU f _ (by rw[fC];omega) (by omega),h,CV _ (by omega),c];simp only[cl,QP,QL,if_true,PY,tQ];rw[sl FU f (by rw[fC];omega) (by omega),Gz FU f 0 (by rw[fC];omega) (by omega) (by omega) (by omega),oy FU s (by rw[fC];omega) (by omega)];simp only[cl];rw[fF (by omega) (by omega)]
 have hmul:(f.acU 0:Int)*((s.acO:Int)-1)=((f.acU 0*s.acO:Nat):Int)-(f.acU 0:Int):=by rw[aak,Zs];push_cast;rfl
 have o:f.acU 0*s.acO<=4096*4096:=XJ (by omega) g;have i:f.acU 0<=f.acU 0*s.acO:=P1 _ (by omega);rw[Ay (by rw[hmul];omega) (by rw[hmul];omega),hmul,fu (by omega) (by omega)]
 by_cases j:4096<(Fm.jF 0 f s).acO
 ·rw[ee (by omega),ee j]
 ·rw[ea (by omega),ea j,Mc FU f 0 0 s (by rw[fC];omega) (by omega) (by omega) (by omega) (by omega) (Fm.m6 f (by omega) h) a (by omega) (Tm.m6 s (by omega) c)];simp only[cl,wq];have p:=Fm.jC _ d;rw[lP (by omega)];rfl
def As{α:Type}{E:α->α->Option Bool}{m l:List α}(hlen:l.length=m.length)(h:∀x∈l,∀y,∃r,E x y=some r/\(r=true↔x=y)):∃o:Unit⊕Bool,fo (λ(j:Int) (x:α) (_:Unit)=>cv (eI m j) λy=>cv (E x y) λz=>if z=true then(some (gw.next ()):Option (gw Unit Bool))else some (gw.ret false)) l 0 ()=some o/\(o=.inl ()/\l=m\/o=.inr false/\l≠m):=by
 let p:α->α->Bool:=λx y=>(E x y).getD false
 have c:∀x∈l,∀y,E x y=some (p x y)/\(p x y=true↔x=y):=by
  intro x a y;obtain⟨r,d,b⟩:=h x a y
  have e:p x y=r:=by show(E x y).getD false=r;rw[d];rfl
  rw[e];exact⟨d,b⟩
 have key:=xB (F:=λ(j:Int) (x:α) (_:Unit)=>cv (eI m j) λy=>cv (E x y) λz=>if z=true then some (gw.next ())else some (gw.ret false)) p m l 0 m rfl hlen (by
  intro k x y a hy;rw[jJ,hy];simp only[cl];rw[(c x a y).1]
  rfl)
 have he:=xl p l m λx a y=>(c x a y).2;rw[key];cases b:vM p l m with
 |false=>rw[b] at he;exact⟨_,rfl,.inr ⟨rfl,λe=>absurd (he.2 e) (by simp)⟩⟩
 |true=>rw[b] at he;exact⟨_,rfl,.inl ⟨rfl,he.1 rfl⟩⟩
def AP:∀(n:Nat) (a b:Fm),a.wt<=n->a.wt<=1000000000->∃r,ky n a b=some r/\(r=true↔a=b):=by
 intro n
 induction n with
 |zero=>intro t b h;have:=t.jB;omega
 |succ n q=>
  intro a b h u;cases a with
  |mk k s ts l=>
  cases b with
  |mk k' f us m=>
   rw[Fm.fM] at h u;have B:=Fm.oz l;have v:=Tm.oz ts;rw[ky];simp only[Fm.eF,Fm.eM,Fm.hY,Fm.ft,eA,eC (l:=l) (by omega),eC (l:=ts) (by omega),eo,ew,fV]
   have no:¬(k=k'/\s=f/\ts=us/\l=m)->∃r,some false=some r/\(r=true↔Fm.mk k s ts l=Fm.mk k' f us m):=by
    intro hn;refine⟨false,rfl,?_⟩;simp only[tQ,TY,Fm.mk.injEq];exact hn
   by_cases d:k≠k'
   ·rw[ee d,ee trivial];exact no λh=>d h.1
   ·rw[ea d];obtain⟨r,w,p⟩:=xW FU s f (by rw[fC];omega) (by omega);rw[w];simp only[cl]
    by_cases e:r=true
    ·have hs:=p.1 e;rw[ee e]
     by_cases g:(ts.length:Int)≠us.length
     ·rw[ee g,ee trivial];exact no λh=>g (by rw[h.2.2.1])
     ·rw[ea g]
      by_cases hm:(l.length:Int)≠m.length
      ·rw[ee hm];exact no λh=>hm (by rw[h.2.2.2])
      ·rw[ea hm];obtain⟨o,z,k2⟩:=As (E:=λx y=>ja FU x y) (l:=ts) (m:=us) (by omega) (λx c y=>xJ FU x y (by have:=eJ Tm.wt c;rw[fC];omega) (by have:=eJ Tm.wt c;omega));rw[z];rcases k2 with⟨rfl,i⟩|⟨rfl,i⟩
       ·simp only[cl,en];obtain⟨o,q1,A⟩:=As (E:=λx y=>ky n x y) (l:=l) (m:=m) (by omega) (λx c y=>q x y (by have:=eJ Fm.wt c;omega) (by have:=eJ Fm.wt c;omega));rw[q1];rcases A with⟨rfl,j⟩|⟨rfl,j⟩
        ·exact⟨true,rfl,by simp only[aaQ,Fm.mk.injEq];exact⟨vE.1 d,hs,i,j⟩⟩
        ·exact no λh=>j h.2.2.2
       ·exact no λh=>i h.2.2.1
    ·rw[ea e,ee trivial];exact no λh=>e (p.2 h.2.1)
def I8:∀(n:Nat) (a b:Fm),a.wt<=n->a.wt<=1000000000->∃r,qh n a b=some r/\(r=true↔a=b):=by
 intro n
 induction n with
 |zero=>intro t b h;have:=t.jB;omega
 |succ n u=>
  intro a b h v;cases a with
  |mk k s ts l=>
  cases b with
  |mk k' i us m=>
   rw[Fm.fM] at h v;have C:=Fm.oz l;have w:=Tm.oz ts;rw[qh];simp only[Fm.eF,Fm.eM,Fm.hY,Fm.ft,eA,eC (l:=l) (by omega),eo,ew,fV]
   have no:¬(k=k'/\s=i/\ts=us/\l=m)->∃r,some false=some r/\(r=true↔Fm.mk k s ts l=Fm.mk k' i us m):=by
    intro hn;refine⟨false,rfl,?_⟩;simp only[tQ,TY,Fm.mk.injEq];exact hn
   have c:∃r,rj ts us=some r/\(r=true↔ts=us):=by
    unfold rj;simp only[ew,fV,eA,eC (l:=ts) (by omega),eo]
    by_cases d:(ts.length:Int)≠us.length
    ·rw[ee d];exact⟨false,rfl,by simp only[tQ,TY];rintro rfl;exact d rfl⟩
    ·rw[ea d];obtain⟨o,z,k2⟩:=As (E:=λx y=>ku FU x y) (l:=ts) (m:=us) (by omega) (λx e y=>A6 FU x y (by have:=eJ Tm.wt e;rw[fC];omega) (by have:=eJ Tm.wt e;omega));rw[z];rcases k2 with⟨rfl,j⟩|⟨rfl,j⟩
     ·exact⟨true,rfl,by simpa using j⟩
     ·exact⟨false,rfl,by simpa using j⟩
   by_cases f:k≠k'
   ·rw[ee f,ee trivial];exact no λh=>f h.1
   ·rw[ea f,jg (by omega)];simp only[cl]
    by_cases g:s.kL i=true
    ·have hs:=(Ty.j3 _ _).1 g;obtain⟨r,A,q⟩:=c;rw[ee g,A];simp only[cl]
     by_cases d:r=true
     ·rw[ee d]
      by_cases hm:(l.length:Int)≠m.length
      ·rw[ee hm];exact no λh=>hm (by rw[h.2.2.2])
      ·rw[ea hm];obtain⟨o,q1,B⟩:=As (E:=λx y=>qh n x y) (l:=l) (m:=m) (by omega) (λx e y=>u x y (by have:=eJ Fm.wt e;omega) (by have:=eJ Fm.wt e;omega));rw[q1];rcases B with⟨rfl,p⟩|⟨rfl,p⟩
       ·exact⟨true,rfl,by simp only[aaQ,Fm.mk.injEq];exact⟨vE.1 f,hs,q.1 d,p⟩⟩
       ·exact no λh=>p h.2.2.2
     ·rw[ea d,ee trivial];exact no λh=>d (q.2 h.2.2.1)
    ·rw[ea g,ee trivial];exact no λh=>g ((Ty.j3 _ _).2 h.2.1)
def Fx(l:List Ty)(t:Tm):Tm:=l.foldr (λs b=>.mk 2 0 s [b]) t
def Tf{l:List Ty}(n:l.length<=1000):∀(i m:Nat) (t:Tm),i<=l.length->i<m->qR ((Qt λ(b:Int) (c:Int) (v59:Int) (d:Int) (e:List Ty) (f:List Tm)=>
   if(ue b 0)=true then(
   cv (eI l b) λg=>
   some (.next ((fG .i64 b 1),2,0,g.acM,g.acN,[(Tm.mk c v59 (Ty.mk d e) f)])))
   else(some (.Ki (b,c,v59,d,e,f)))):(Int×Int×Int×Int×(List Ty)×(List Tm))->(Option (gw (Int×Int×Int×Int×(List Ty)×(List Tm)) (Tm)))) m ((i:Int)-1,t.acM,t.acP,t.dv.acM,t.dv.acN,t.acN)=some (.inl (-1,(Fx (l.take i) t).acM,(Fx (l.take i) t).acP,(Fx (l.take i) t).dv.acM,(Fx (l.take i) t).dv.acN,(Fx (l.take i) t).acN))
 |0,m+1,t,_,_=>by
  rw[oa];simp only[Qt];rw[ea (by rw[iX];omega)];rfl
 |i+1,m+1,t,hi,hm=>by
  rw[oa];simp only[Qt];rw[ee (by rw[iX];omega),show((i+1:Nat):Int)-1=(i:Int) by omega,jJ,oG (by omega)];simp only[cl,fv];rw[fF (by omega) (by omega)]
  have p:Ty.mk (l[i]).acM (l[i]).acN=l[i]:=by cases l[i];rfl
  have o:Tm.mk t.acM t.acP (Ty.mk t.dv.acM t.dv.acN) t.acN=t:=by cases t with|mk k j s a=>cases s;rfl
  have h:=Tf n i m (.mk 2 0 l[i] [t]) (by omega) (by omega);rw[o];refine h.trans ?_;rw[QW,oG (by omega)];simp only[Fx,XR,NO,List.foldr_cons,List.foldr_nil]
def y5(t:Tm)(l:List Ty)(b:l.length<=1000):vm t l=some (Fx l t):=by
 unfold vm;simp only[eA];rw[fV,fF (by omega) (by omega)];have h:=Tf b l.length FU t (jw _) (VL (by omega));rw[h,cl,List.take_length];generalize Fx l t=r;cases r with|mk k j s a=>cases s;rfl
def B4(t a:Tm):sd t [a]=some (.mk 3 0 (.mk 0 []) [t,a]):=by cases t with|mk k j s l=>cases s;rfl
def KS(t a b:Tm):sd t [a,b]=some (.mk 3 0 (.mk 0 []) [.mk 3 0 (.mk 0 []) [t,a],b]):=by cases t with|mk k j s l=>cases s;rfl
def VX:Tm:=Fx [.nat] (.mk 6 0 .nat [.mk 4 0 (.mk 0 []) [],Fx [.nat,.nat] (.mk 1 1 (.mk 0 []) []),.mk 1 0 (.mk 0 []) []])
def Jf:vJ=some VX:=by
 unfold vJ nG rp iP Ab;simp only[qu,cl,y5 _ _ (show[Ty.nat,Ty.nat].length<=1000 by decide),y5 _ _ (show[Ty.nat].length<=1000 by decide)];rfl
def Zo:Tm:=Fx [.nat,.nat] (.mk 6 0 .nat [.mk 1 1 (.mk 0 []) [],Fx [.nat,.nat] (.mk 3 0 (.mk 0 []) [VX,.mk 1 0 (.mk 0 []) []]),.mk 1 0 (.mk 0 []) []])
def Kn:xR=some Zo:=by
 unfold xR nG An iP Ab;simp only[Jf,qu,cl,B4,y5 _ _ (show[Ty.nat,Ty.nat].length<=1000 by decide)];rfl
def V9(a b:Tm):Fm:=.mk 1 (.mk 0 []) [.mk 3 0 (.mk 0 []) [.mk 3 0 (.mk 0 []) [Zo,.mk 5 0 (.mk 0 []) [a]],b],.mk 4 0 (.mk 0 []) []] []
def I_(a b:Tm):vb a b=some (V9 a b):=by
 unfold vb rp rh;simp only[Kn,cl,KS];rfl
def S4:∀x y:Fin 8,∃z:Fin 8,qC .u8 (x:Nat) (y:Nat)=(z:Nat)/\((z:Nat)%2=1↔(x:Nat)%2=1/\(y:Nat)%2=1):=by decide
def UC:∀x y:Fin 8,∃z:Fin 8,xp .u8 (x:Nat) (y:Nat)=(z:Nat)/\((z:Nat)%2=1↔(x:Nat)%2=1\/(y:Nat)%2=1):=by decide
def Mk(b:Bool)(m:Int):Prop:=∃x:Fin 8,m=((x:Nat):Int)/\((x:Nat)%2=1↔b=true)
def Mk.and{a b:Bool}{x y:Int}(c:Mk a x)(hy:Mk b y):Mk (a&&b) (qC .u8 x y):=by
 obtain⟨x,rfl,d⟩:=c;obtain⟨y,rfl,e⟩:=hy;obtain⟨z,f,g⟩:=S4 x y;exact⟨z,f,by rw[g,d,e,gO]⟩
def Mk.or{a b:Bool}{x y:Int}(c:Mk a x)(hy:Mk b y):Mk (a||b) (xp .u8 x y):=by
 obtain⟨x,rfl,d⟩:=c;obtain⟨y,rfl,e⟩:=hy;obtain⟨z,f,g⟩:=UC x y;exact⟨z,f,by rw[g,d,e,p9]⟩
def Mk.one:Mk true 1:=⟨1,rfl,by decide⟩
def Mk.six:Mk false 6:=⟨6,rfl,by decide⟩
def Mk.four:Mk false 4:=⟨4,rfl,by decide⟩
def Mk.bit{b:Bool}{m:Int}(h:Mk b m):eW (qC .u8 m 1) 0=b:=by
 obtain⟨x,rfl,a⟩:=h
 have key:∀x:Fin 8,eW (qC .u8 ((x:Nat):Int) 1) 0=decide ((x:Nat)%2=1):=by decide
 rw[key x];cases b with
 |false=>exact DA (λh=>by have:=a.1 h;cases this)
 |true=>exact wh (a.2 rfl)
def Fm.WM{a:Fm}(d:a.ok=true)(c:a.acM=2\/a.acM=3):∃p q,a=.mk a.acM (.mk 0 []) [] [p,q]/\p.ok=true/\q.ok=true:=by
 refine Fm.pA (p:=λa=>a.acM=2\/a.acM=3->∃p q,a=.mk a.acM (.mk 0 []) [] [p,q]/\p.ok=true/\q.ok=true) ?_ ?_ ?_ a d c
 ·intro a b _ _ h;rcases h with h|h<;>cases h
 ·intro k a b _ e f _ _ _;exact⟨a,b,rfl,e,f⟩
 ·intro k s a c _ _ _ h;have h:k=2\/k=3:=h;omega
def Fm.Z5{a:Fm}(d:a.ok=true)(e:a.acM=1):∃u v,a=.mk 1 (.mk 0 []) [u,v] []/\u.ok=true/\v.ok=true:=by
 refine Fm.pA (p:=λa=>a.acM=1->∃u v,a=.mk 1 (.mk 0 []) [u,v] []/\u.ok=true/\v.ok=true) ?_ ?_ ?_ a d e
 ·intro a b f g _;exact⟨a,b,rfl,f,g⟩
 ·intro k a b c _ _ _ _ h;have h:k=1:=h;omega
 ·intro k s a c _ _ _ h;have h:k=1:=h;omega
def Tm.YB{a:Tm}(e:a.ok=true)(f:a.acM=3):∃c d,a=.mk 3 0 .z [c,d]/\c.ok=true/\d.ok=true:=by
 refine Tm.pA (p:=λa=>a.acM=3->∃c d,a=.mk 3 0 .z [c,d]/\c.ok=true/\d.ok=true) ?_ ?_ ?_ ?_ ?_ ?_ ?_ ?_ ?_ ?_ ?_ ?_ ?_ a e f
 case refine_3=>intro a b g i _;exact⟨a,b,rfl,g,i⟩
 all_goals(intros;rename_i h;cases h)
def GD{k:Int}{s:Ty}{a:Fm}(R:(Fm.mk k s [] [a]).ok=true)(hn:(Fm.mk k s [] [a]).acO<=1000000)(I:a.acS 1000000000000=true)(n:a.ok=true):∃b t q ok,uj (.mk k s [] [a])=some (b,t,q,ok)/\(ok=true->q.ok=true/\q.acO<a.acO/\q.acS 1000000000000=true):=by
 rw[Fm.ef] at hn;simp only[ez] at hn;have no:∃b t q ok,(some (false,(Tm.mk 0 0 (Ty.mk 0 []) []),(Fm.mk 0 (Ty.mk 0 []) [] []),false):Option (Bool×Tm×Fm×Bool))=some (b,t,q,ok)/\(ok=true->q.ok=true/\q.acO<a.acO/\q.acS 1000000000000=true):=⟨_,_,_,_,rfl,by simp⟩;unfold uj
 obtain⟨o,j,J,S⟩:∃o j,tU (eH (Fm.mk k s [] [a]).acM 4)=some (o,j)/\(j=2\/j=3):=by
  unfold tU
  split
  ·exact⟨_,_,rfl,.inr rfl⟩
  ·exact⟨_,_,rfl,.inl rfl⟩
 rw[J,eb];simp only[eA]
 by_cases E:eW (Fm.mk k s [] [a]).acM o=true
 ·rw[ee E,ee trivial];exact no
 rw[ea E]
 by_cases F:eW (Fm.mk k s [] [a]).dv.acM 1=true
 ·rw[ee F,ee trivial];exact no
 rw[ea F];simp only[Fm.eF,eU,jA,cl]
 by_cases c3:eW a.acM j=true
 ·rw[ee c3,ee trivial];exact no
 rw[ea c3]
 have w:a.acM=2\/a.acM=3:=by
  have:a.acM=j:=by simpa[eW] using c3
  omega
 obtain⟨p,q,e,G,K⟩:=Fm.WM n w;have x:a.acN=[p,q]:=(congrArg Fm.acN e).trans rfl
 have L:a.acO=1+p.acO+q.acO:=by rw[e,Fm.ef];simp[ez];omega
 have l:p.acS 1000000000000=true/\q.acS 1000000000000=true:=by
  have f:=I;rw[e,Fm.fX] at f;simp only[U2,wu,A1,AO,gO] at f;exact f
 have M:=p.eP;rw[x];simp only[eU,gu,jA,mT,cl]
 by_cases y:eW p.acM 1=true
 ·rw[ee y];exact no
 rw[ea y]
 have z:p.acM=1:=by simpa[eW] using y
 obtain⟨u,v,g,hu,T⟩:=Fm.Z5 G z;have A:p.ek=[u,v]:=(congrArg Fm.ek g).trans rfl
 have h:u.acS 1000000000000=true:=by
  have:=l.1;rw[g,Fm.fX] at this;simp only[wu,gO] at this;exact this.1.1
 have N:p.acO=1+u.acO+v.acO:=by rw[g,Fm.ef];simp[ez];omega
 rw[A];simp only[eU,jA,cl]
 by_cases c5:eW u.acM 3=true
 ·rw[ee c5,ee trivial];exact no
 rw[ea c5]
 have B:u.acM=3:=by simpa[eW] using c5
 obtain⟨c,d,i,U,O⟩:=Tm.YB hu B;have C:u.acN=[c,d]:=(congrArg Tm.acN i).trans rfl
 have P:u.acO=1+c.acO+d.acO:=by rw[i,Tm.ef];simp[ez];omega
 have D:d.acS 1000000000000=true:=by
  rw[i,Tm.fX] at h;simp only[wu,gO] at h;exact h.2.2.1
 rw[C];simp only[gu,mT,jA,cl];rw[Be 0 ⟨O,D,by omega⟩,cl];have yes:∃b t m ok,(some (eH (Fm.mk k s [] [a]).acM 4,d,q,true):Option (Bool×Tm×Fm×Bool))=some (b,t,m,ok)/\(ok=true->m.ok=true/\m.acO<a.acO/\m.acS 1000000000000=true):=⟨_,_,_,_,rfl,λ_=>⟨K,by omega,l.2⟩⟩
 by_cases H:pc (d.acU 0:Int) 0=true
 ·rw[ee H,ee trivial];exact no
 rw[ea H];have hw:=p.jC G;obtain⟨r,Q,_⟩:=AP FU p (V9 (.mk 1 0 (.mk 0 []) []) d) (by rw[fC];omega) (by omega);rw[show iP 0=some (Tm.mk 1 0 (.mk 0 []) [])from rfl,cl,I_,cl,Q,cl];cases r with
 |true=>rw[show nB true=false from rfl,ea (by decide)];exact yes|false=>rw[show nB false=true from rfl,ee rfl];exact no
def LR:∀(n:Nat) (f:Fm),f.acO<=n->f.acO<=1000000->f.ok=true->f.acS 1000000000000=true->∃m,n5 n f=some m/\Mk f.has m:=by
 intro n
 induction n with
 |zero=>intro f h;have:=f.eP;omega
 |succ n w=>
  intro f hn e x c;refine Fm.pA (p:=λf=>f.acO<=n+1->f.acO<=1000000->f.ok=true->f.acS 1000000000000=true->∃m,n5 (n+1) f=some m/\Mk f.has m) ?_ ?_ ?_ f x hn e x c
  ·intro a b _ _ _ _ _ _;rw[n5,ee (by rfl)];exact⟨6,rfl,by rw[Fm.has_eq];exact Mk.six⟩
  ·intro k a b y z B _ _ hn e _ c;rw[Fm.ef] at hn e;simp only[ez] at hn e;rw[Fm.fX] at c;simp only[U2,wu,A1,AO,gO] at c;obtain⟨A,C,r⟩:=w a (by omega) (by omega) z c.1;obtain⟨j,D,u⟩:=w b (by omega) (by omega) B c.2
   have d:k≠1:=by omega
   have E:fW (eH k 2) true (eH k 3)=true:=by rcases y with rfl|rfl<;>rfl
   rw[n5,ea (show¬eH (Fm.mk k (.mk 0 []) [] [a,b]).acM 1=true by simpa[eH] using d)]
   have F:eI [a,b] (fG .i64 (eN [a,b]) 1)=some b:=by rw[fF (by simp) (by simp)];rfl
   simp only[Fm.eF,F,cl,D,eA];rw[ee (show fW (eH (Fm.mk k (.mk 0 []) [] [a,b]).acM 2) true (eH (Fm.mk k (.mk 0 []) [] [a,b]).acM 3)=true from E)];simp only[eU,jA,cl,C,Fm.eM];refine⟨_,rfl,?_⟩;rw[Fm.Pd,ea d];have l:=(r.and u).and Mk.six;rw[Bool.and_false] at l;rcases y with rfl|rfl
   ·rw[show fW (eH 2 2) (xp .u8 j A) j=xp .u8 j A from rfl];have g:=(u.or r).and Mk.one;rw[A1] at g;have:=l.or g;rw[U7,Bool.or_comm] at this;simpa using this
   ·rw[show fW (eH 3 2) (xp .u8 j A) j=j from rfl];have g:=u.and Mk.one;rw[A1] at g;have:=l.or g;rw[U7] at this;simpa using this
  ·intro k s a y hs z _ hn e x c;have G:=e;rw[Fm.ef] at hn e;simp only[ez] at hn e;rw[Fm.fX] at c;simp only[U2,wu,A1,AO] at c;obtain⟨A,C,r⟩:=w a (by omega) (by omega) z c
   have d:k≠1:=by omega
   have E:fW (eH k 2) true (eH k 3)=false:=by rcases y with rfl|rfl|rfl|rfl<;>rfl
   rw[n5,ea (show¬eH (Fm.mk k s [] [a]).acM 1=true by simpa[eH] using d)]
   have F:eI [a] (fG .i64 (eN [a]) 1)=some a:=by rw[fF (by simp) (by simp)];rfl
   simp only[Fm.eF,F,cl,C,eA];rw[ea (show¬fW (eH (Fm.mk k s [] [a]).acM 2) true (eH (Fm.mk k s [] [a]).acM 3)=true by rw[show fW (eH (Fm.mk k s [] [a]).acM 2) true (eH (Fm.mk k s [] [a]).acM 3)=false from E];decide)];obtain⟨b,t,q,ok,L,M⟩:=GD x G c z;rw[L]
   have fin:∀(v:Int) (K:Mk (Fm.mk k s [] [a]).has v),∃m,(Pc (some (b,t,q,ok)) λN O H I=>if I=true then(cv (n5 n H) λo=>some (xp .u8 (qC .u8 v 1) (qC .u8 o 4)))else(some (qC .u8 v 1)))=some m/\Mk (Fm.mk k s [] [a]).has m:=by
    intro v K;show∃m,(if ok=true then(cv (n5 n q) λo=>some (xp .u8 (qC .u8 v 1) (qC .u8 o 4)))else(some (qC .u8 v 1)))=some m/\Mk (Fm.mk k s [] [a]).has m;have l:=K.and Mk.one;rw[A1] at l;cases ok with
    |false=>exact⟨_,rfl,l⟩|true=>
     obtain⟨d1,d2,d3⟩:=M rfl;obtain⟨j,D,u⟩:=w q (by omega) (by omega) d1 d3;rw[ee rfl,D];refine⟨_,rfl,?_⟩;have g:=u.and Mk.four;rw[Bool.and_false] at g;have:=l.or g
     rwa [Bool.or_false] at this
   have i:(Fm.mk k s [] [a]).has=if k=5 then true else a.has:=by
    rw[Fm.Aw,ea d]
   by_cases J:k=5
   ·subst J;rw[ee (by rfl)];refine fin _ ?_;rw[i,ee rfl];have:=r.or Mk.one
    rwa [Bool.or_true] at this
   ·rw[ea (show¬eH (Fm.mk k s [] [a]).acM 5=true by simpa[eH] using J)];refine fin _ ?_;rw[i,ea J];exact r
def DG{f:Fm}(hw:f.wt<=1000000000)(b:f.acS 1000000000000=true):pF f=some (if f.err≠0 then(false,f.err)else(f.has,0)):=by
 unfold pF Az;rw[ly hw,cl]
 by_cases he:f.err=0
 ·obtain⟨a,hn⟩:=Fm.hZ he;obtain⟨m,c,d⟩:=LR FU f (by have:=fC;omega) (by omega) a b;rw[ea (by rw[ew];simpa using he),c,cl,d.bit,eb,ea (by simpa using he)]
 ·rw[ee (by rw[ew];exact he),eb,ee he]
def nx{α:Type}(m:List (Int×α)):List Int:=m.map (·.1)
def CW{α:Type}(k:Int)(v:α):∀(m:List (Int×α)) (x:Int),x∈nx (uO m k v)↔x=k\/x∈nx m
 |[],x=>by simp[uO,nx]|p::m,x=>by
  unfold uO
  by_cases h:p.1=k
  ·rw[ee h];subst h;simp[nx]
  ·rw[ea h];have a:=CW k v m x;simp only[nx,wk,l7] at a|-;rw[a];constructor
   ·rintro(h|h|h)
    ·exact .inr (.inl h)
    ·exact .inl h
    ·exact .inr (.inr h)
   ·rintro(h|h|h)
    ·exact .inr (.inl h)
    ·exact .inl h
    ·exact .inr (.inr h)
def Bp{α:Type}(k:Int)(v:α):∀(m:List (Int×α)),(nx m).Nodup->(nx (uO m k v)).Nodup
 |[],_=>by simp[uO,nx]|p::m,h=>by
  have b:p.1∉nx m/\(nx m).Nodup:=Ya.1 h;unfold uO
  by_cases a:p.1=k
  ·rw[ee a];subst a;exact h
  ·rw[ea a];refine Ya.2 ⟨λhm=>?_,Bp k v m b.2⟩;rcases(CW k v m p.1).1 hm with e|e
   ·exact a e
   ·exact b.1 e
def G6{α:Type}(k:Int)(v:α):∀(m:List (Int×α)),(uO m k v).length<=m.length+1
 |[]=>by simp[uO]|p::m=>by
  unfold uO
  split
  ·simp
  ·have:=G6 k v m;simp only[l5];omega
def LD(n:Int):∀l:List Int,(BR n l).length=l.length+1
 |[]=>rfl|a::l=>by
  unfold BR
  split
  ·rfl
  ·simp[LD n l]
def J1:∀(l acc:List Int),(yM acc l).length=acc.length+l.length
 |[],acc=>by simp[yM]|a::l,acc=>by rw[yM,J1 l,LD];simp only[l5];omega
def IX:∀(n:Nat) (t:Tm) (d:Int) (m:List (Int×Bool)),t.acO<=n->t.acO<=100000000->0<=d->d+t.acO<=1000000000->t.acS 4611686018427387904=true->(nx m).Nodup->∃q,qf n t d m=some q/\(nx q).Nodup/\q.length<=m.length+t.acO/\∀x,x∈nx q↔x∈nx m\/(0<=x/\0<t.acU (x+d)):=by
 intro n
 induction n with
 |zero=>intro t d m h;have:=t.eP;omega
 |succ n J=>
  intro t d m hn w K L C hm;cases t with
  |mk k i s l=>
   have D:=lI k;rw[Tm.ef] at hn w L;have hlen:=iA Tm.acO l λt _=>t.eP;rw[Tm.fX,gO,nA,ll] at C
   have acN:∀(F:Int->Tm->List (Int×Bool)->Option (gw (List (Int×Bool)) (List (Int×Bool)))),(∀j x v,F j x v=cv (lQ (Tm.mk k i s l)) λb=>cv (qf n x (fk .i64 d b) v) λr=>some (.next r))->∀(as:List Tm) (j:Nat) (v:List (Int×Bool)),(∀a∈as,a∈l)->(nx v).Nodup->∃e,fo F as j v=some (.inl e)/\(nx e).Nodup/\e.length<=v.length+ez Tm.acO as/\∀x,x∈nx e↔x∈nx v\/(0<=x/\0<ez (Tm.acU (x+d+gk k)) as):=by
    intro F hF as
    induction as with
    |nil=>intro j v _ y;exact⟨v,rfl,y,by simp[ez],λx=>by simp[ez]⟩|cons a as z=>
     intro j v has y;have E:=has a (by simp);have M:=eJ Tm.acO E;have A:=C.2 a E;obtain⟨v1,f,g,G,o⟩:=J a (d+gk k) v (by omega) (by omega) (by omega) (by omega) A y;obtain⟨v2,g1,g2,g3,g4⟩:=z (j+1) v1 (λb w=>has b (by simp[w])) g;refine⟨v2,?_,g2,by simp only[ez];omega,λx=>?_⟩
     ·rw[fl,hF,oA];simp only[cl,Tm.eM];rw[fu (by omega) (by omega),f];simp only[cl,fv];exact g1
     ·rw[g4,o];simp only[ez];rw[<-Int.add_assoc];constructor
      ·rintro((h|h)|h)
       ·exact .inl h
       ·exact .inr ⟨h.1,by omega⟩
       ·exact .inr ⟨h.1,by omega⟩
      ·rintro(h|⟨h,u⟩)
       ·exact .inl (.inl h)
       ·by_cases N:0<a.acU (x+d+gk k)
        ·exact .inl (.inr ⟨h,N⟩)
        ·exact .inr ⟨h,by omega⟩
   unfold qf;simp only[eA,Tm.eF,eC (l:=l) (by omega),eo,Tm.eM,Tm.gl];rw[Tm.ef]
   by_cases p:k=1/\d<=i
   ·have c:fW (eH k 1) (ue i d) false=true:=by simp[fW,p.1,p.2]
    simp only[c,if_true];rw[fF (by omega) (by omega)];obtain⟨e,f,g,G,o⟩:=acN _ (λ_ _ _=>rfl) l 0 (uO m (i-d) true) (λa h=>h) (Bp _ _ _ hm);refine⟨e,by rw[f];rfl,g,by have:=G6 (i-d) true m;omega,λx=>?_⟩;rw[o,CW,Tm.gG];constructor
    ·rintro((h|h)|h)
     ·exact .inr ⟨by omega,by rw[ee ⟨p.1,by omega⟩];omega⟩
     ·exact .inl h
     ·exact .inr ⟨h.1,by omega⟩
    ·rintro(h|⟨h,u⟩)
     ·exact .inl (.inr h)
     ·by_cases H:x=i-d
      ·exact .inl (.inl H)
      ·rw[ea (λI=>H (by omega))] at u;exact .inr ⟨h,by omega⟩
   ·have c:fW (eH k 1) (ue i d) false=false:=by
     unfold fW
     split
     ·rename_i O
      have B:k=1:=by simpa using O
      simp only[ue,aav]
      exactλh=>p ⟨B,h⟩
     ·rfl
    simp only[c,tQ,QL];obtain⟨e,f,g,G,o⟩:=acN _ (λ_ _ _=>rfl) l 0 m (λa h=>h) hm;refine⟨e,by rw[f];rfl,g,by omega,λx=>?_⟩;rw[o,Tm.gG];constructor
    ·rintro(h|h)
     ·exact .inl h
     ·exact .inr ⟨h.1,by omega⟩
    ·rintro(h|⟨h,u⟩)
     ·exact .inl h
     ·rw[ea (λI=>p ⟨I.1,by omega⟩)] at u;exact .inr ⟨h,by omega⟩
def Bk{t:Tm}(hw:t.wt<=1000000000)(d:t.acS 4611686018427387904=true)(he:t.err=0):∃l,tc t=some (l,0)/\ES l/\l.length<=4096/\∀x,x∈l↔0<=x/\0<t.acU x:=by
 have hn:t.acO<=4096:=by
  unfold Tm.err at he
  split at he
  ·split at he
   ·cases he
   ·omega
  ·cases he
 obtain⟨m,e,c,f,g⟩:=IX FU t 0 [] (by rw[fC];omega) (by omega) (by omega) (by omega) d (by simp[nx])
 have a:(m.map (·.1)).Nodup:=c
 have b:m.length<=4096:=by simpa using C9 f (by simpa using hn)
 refine⟨yM [] (nx m),?_,AI _ [] .nil c (by simp),?_,λx=>?_⟩
 ·unfold tc;rw[ni hw,he];simp only[cl];rw[ea (by decide),e];simp only[cl];unfold qJ
  rw[eC (by omega),eo,show xr (m.map (·.1))=true from by simp[xr,a],eo]
  rfl
 ·rw[J1];simp[nx,b]
 ·rw[AA,g];simp[nx]
def F1{n:Int}(a:0<=n)(b:n<4294967296):IntKind.u32.wrap n=n:=by
 unfold IntKind.wrap;simp only[show IntKind.u32.bits=32 from rfl,show IntKind.u32.signed=false from rfl,aaH,tQ,QL,show((2:Int)^32)=4294967296 from rfl];omega
def J9(a:Nat):BitVec.ofInt 32 (a:Int)=BitVec.ofNat 32 a:=by simp
def Kb{a b:Nat}(d:a<4294967296)(e:b<4294967296):xp .u32 (a:Int) (b:Int)=((a|||b:Nat):Int):=by
 unfold xp;have c:a|||b<2^32:=TA (by omega) (by omega);rw[show IntKind.u32.bits=32 from rfl,J9,J9,BitVec.toNat_or,WO,WO,S9 (by omega),S9 (by omega)];exact F1 (by omega) (by omega)
def MC{a b:Nat}(d:a<4294967296)(e:b<4294967296):qC .u32 (a:Int) (b:Int)=((a&&&b:Nat):Int):=by
 unfold qC;have c:a&&&b<2^32:=DN _ (by omega);rw[show IntKind.u32.bits=32 from rfl,J9,J9,BitVec.toNat_and,WO,WO,S9 (by omega),S9 (by omega)];exact F1 (by omega) (by omega)
def Sn{k:Nat}(b:k<32):SG .u32 1 (k:Int)=((2^k:Nat):Int):=by
 unfold SG;rw[show IntKind.u32.bits=32 from rfl,AX,UM (by omega),Int.one_mul];have a:2^k<2^32:=I9 (by decide) b;rw[show((2:Int)^k)=((2^k:Nat):Int) by push_cast;rfl];exact F1 (NC _) (Int.ofNat_lt.2 (yQ a rfl))
def R3{a k:Nat}(b:k<=32):TV .u32 (a:Int) (k:Int)=((a/2^k:Nat):Int):=by
 unfold TV;rw[show IntKind.u32.bits=32 from rfl,AX,UM b];rw[show((2:Int)^k)=((2^k:Nat):Int) by push_cast;rfl];rw[Int.fdiv_eq_ediv_of_nonneg _ (NC _)];rfl
structure Us (l:List Int) (m:Nat):Prop where
 lt:m<4294967296
 pos:∀x∈l,0<=x
 YG:ES l
 mem:∀i:Nat,(i:Int)∈l↔m.testBit i=true
def Us.nil:Us [] 0:=⟨by decide,by simp,by first|exact .nil|trivial|simp[ES],by simp⟩
def Em{i b:Int}{m:Nat}(hm:m<4294967296)(g:0<=i)(l:i<=1000000000000)(o:0<=b)(p:b<=1000000000)(q:i-b<32):∃c:Nat,oh i b (m:Int)=some (c:Int)/\c<4294967296/\∀j:Nat,c.testBit j=true↔m.testBit j=true\/i=j+b:=by
 unfold oh
 by_cases h:b<=i
 ·rw[ee (by rw[iX];exact h),fF (by omega) (by omega),show H6 (i-b)=true by simp[H6];omega,eo];obtain⟨k,f⟩:∃k:Nat,i-b=(k:Int):=⟨(i-b).toNat,by omega⟩
  have a:k<32:=by omega
  have d:2^k<4294967296:=yQ (I9 (by decide) a) rfl;rw[f,Sn a,Kb hm d];refine⟨m|||2^k,rfl,TA (n:=32) (by omega) (by omega),λj=>?_⟩;rw[N3,p9,aaF,CY];constructor
  ·rintro(h|h)
   ·exact .inl h
   ·exact .inr (by omega)
  ·rintro(h|h)
   ·exact .inl h
   ·exact .inr (by omega)
 ·rw[ea (by rw[iX];exact h)];exact⟨m,rfl,hm,λj=>⟨.inl,λe=>e.elim id λe=>absurd e (by omega)⟩⟩
def G8:∀(n:Nat) (t:Tm) (b:Int) (m:Nat),t.acO<=n->t.acO<=1000000->t.ok=true->t.acS 1000000000000=true->0<=b->b+t.acO<=1000000000->m<4294967296->(∀j:Int,32<=j->t.acU (j+b)=0)->∃g:Nat,jW n t b (λ(s:Int) (o:Int) (p:Int)=>oh o p s) (m:Int)=some (g:Int)/\g<4294967296/\∀j:Nat,g.testBit j=true↔m.testBit j=true\/0<t.acU (j+b):=by
 intro n
 induction n with
 |zero=>intro t b m h;have:=t.eP;omega
 |succ n L=>
  intro t b m hn M N r O w hm c;cases t with
  |mk k i s l=>
   rw[Tm.ef] at hn M w;have hlen:=Tm.fK l;have hi:=Tm.lB N;rw[Tm.fX,gO,CY,ll] at r;have P:=lI k;rw[jW];simp only[eA]
   have x:∀j:Int,32<=j->∀t∈l,t.acU (j+(b+gk k))=0:=by
    intro j y t Q;have z:=c j y;rw[Tm.gG] at z;have V:=eJ (Tm.acU (j+b+gk k)) Q;rw[show j+(b+gk k)=j+b+gk k by omega];omega
   have loop:∀(ts:List Tm) (j:Nat) (v:Nat),(∀t∈ts,t∈l)->v<4294967296->∃A:Nat,fo (λ(R:Int) (B:Tm)=>(λ(v28:Int)=>
      cv (jW n B (b+gk k) (λ(s:Int) (o:Int) (p:Int)=>oh o p s) v28) λC=>
      some ((.next C):gw Int Int))) ts j (v:Int)=some (.inl (A:Int))/\A<4294967296/\∀q:Nat,A.testBit q=true↔v.testBit q=true\/0<ez (Tm.acU (q+b+gk k)) ts:=by
    intro ts
    induction ts with
    |nil=>intro j v _ D;exact⟨v,by simp,D,λq=>by simp[ez]⟩|cons t ts E=>
     intro j v d D;have a:=d t (by simp);have S:=eJ Tm.acO a;obtain⟨v1,F,G,H⟩:=L t (b+gk k) v (by omega) (by omega) (hi.2.2.2.1 t a) (r.2 t a) (by omega) (by omega) D (λj y=>x j y t a);obtain⟨v2,f1,f2,f3⟩:=E (j+1) v1 (λu hu=>d u (by simp[hu])) G;refine⟨v2,?_,f2,λq=>?_⟩
     ·rw[fl,F];simp only[cl,fv];exact f1
     ·rw[f3,H];simp only[ez];rw[show(q:Int)+(b+gk k)=q+b+gk k by omega];constructor
      ·rintro((h|h)|h)
       ·exact .inl h
       ·exact .inr (by omega)
       ·exact .inr (by omega)
      ·rintro(h|h)
       ·exact .inl (.inl h)
       ·by_cases T:0<t.acU (q+b+gk k)
        ·exact .inl (.inr T)
        ·exact .inr (by omega)
   by_cases I:k=1
   ·subst I;rw[ee (show eH (Tm.mk 1 i s l).acM 1=true from rfl)];simp only[Tm.eF,Tm.eM,Tm.gl]
    have J:i-b<32:=by
     rcases Int.lt_or_le (i-b) 32 with h|h
     ·exact h
     ·have z:=c (i-b) h;rw[Tm.gG,ee ⟨rfl,by omega⟩] at z;omega
    obtain⟨U,F,G,H⟩:=Em hm hi.2.1 r.1 O (by omega) J;rw[F,cl,xU 1 b (by omega) (by omega),eC (by omega),eo];obtain⟨K,f1,f2,f3⟩:=loop l 0 U (λt h=>h) G;refine⟨K,?_,f2,λq=>?_⟩
    ·have e:=f1;rw[show((0:Nat))=0 from rfl] at e;rw[e,cl];rfl
    ·rw[f3,H,Tm.gG]
     by_cases f:i=q+b
     ·rw[ee ⟨rfl,f⟩];exact⟨λ_=>.inr (by omega),λ_=>.inl (.inr f)⟩
     ·rw[ea (λh=>f h.2),vl];exact⟨λh=>h.elim (λh=>h.elim .inl λh=>absurd h f) .inr,λh=>h.elim (λh=>.inl (.inl h)) .inr⟩
   ·rw[ea (show¬eH (Tm.mk k i s l).acM 1=true by simpa[eH] using I)];simp only[Tm.eF,Tm.eM,Tm.gl];rw[xU k b (by omega) (by omega),eC (by omega),eo];obtain⟨K,f1,f2,f3⟩:=loop l 0 m (λt h=>h) hm;refine⟨K,by rw[f1,cl];rfl,f2,λq=>?_⟩;rw[f3,Tm.gG,ea (λh=>I h.1),vl]
def Vv{t:Tm}(he:t.err=0)(b:t.acS 1000000000000=true)(c:∀j:Int,32<=j->t.acU j=0):∃(l:List Int) (m:Nat),kG t=some (m:Int)/\kY t=some l/\Us l m/\∀x,x∈l↔0<=x/\0<t.acU x:=by
 obtain⟨a,hn⟩:=Tm.hZ he;have hw:=t.jC a;obtain⟨m,d,e,f⟩:=G8 FU t 0 0 (by have:=fC;omega) (by omega) a b (by omega) (by omega) (by decide) (λj g=>by rw[wq];exact c j g);obtain⟨l,g1,g2,_,g4⟩:=Bk (t:=t) (by omega) (Tm.m6 t (by omega) b) he;refine⟨l,m,?_,by unfold kY;rw[g1];rfl,⟨e,λx h=>((g4 x).1 h).1,g2,λi=>?_⟩,g4⟩
 ·unfold kG rJ;rw[show(0:Int)=((0:Nat):Int)from rfl] at*;rw[d];rfl
 ·rw[g4,f,wq];simp
def tw(v:List (Int×Bool))(l:List Int):List (Int×Bool):=l.foldl (λv x=>uO v x true) v
def ym:∀(l:List Int) (v:List (Int×Bool)),(nx v).Nodup->(nx (tw v l)).Nodup/\(tw v l).length<=v.length+l.length/\∀x,x∈nx (tw v l)↔x∈nx v\/x∈l
 |[],v,h=>⟨h,by simp[tw],λx=>by simp[tw]⟩|y::l,v,h=>by
  obtain⟨a,c,b⟩:=ym l (uO v y true) (Bp y true v h);refine⟨a,?_,λx=>?_⟩
  ·have:=G6 y true v;show(tw (uO v y true) l).length<=_;rw[l5];omega
  ·show x∈nx (tw (uO v y true) l)↔_;rw[b,CW,l7];constructor
   ·rintro((h|h)|h)
    ·exact .inr (.inl h)
    ·exact .inl h
    ·exact .inr (.inr h)
   ·rintro(h|h|h)
    ·exact .inl (.inr h)
    ·exact .inl (.inl h)
    ·exact .inr h
def HQ{ρ:Type}:∀(l:List Int) (j:Nat) (v:List (Int×Bool)),fo (λ(c:Int) (a:Int)=>(λ(b:(List (Int×Bool)))=>some ((.next (uO b a true)):gw (List (Int×Bool)) ρ))) l j v=some (.inl (tw v l))
 |[],j,v=>by rw[pw];rfl|x::l,j,v=>by
  rw[fl];simp only[cl,fv];exact HQ l (j+1) (uO v x true)
def Hs{a b:List Int}(f:a.length<=1000000)(g:b.length<=1000000):∃l,gN a b=some l/\ES l/\∀x,x∈l↔x∈a\/x∈b:=by
 obtain⟨c,d,e⟩:=ym a [] (by simp[nx]);obtain⟨g1,g2,g3⟩:=ym b (tw [] a) c;refine⟨yM [] (nx (tw (tw [] a) b)),?_,AI _ _ .nil g1 (by simp),λx=>?_⟩
 ·unfold gN;simp only[eA];rw[eC (by omega),eo];rw[HQ a 0 [],cl,en,eC (by omega),eo,HQ b 0 _,cl,en];unfold qJ;simp only[wv] at d;rw[eC (by omega),eo,show xr (List.map (λx=>x.1) (tw (tw [] a) b))=true from wh g1,eo];rfl
 ·rw[AA,g3,e];simp[nx]
def Us.union{a b:List Int}{m n:Nat}(c:Us a m)(d:Us b n)(e:a.length<=1000000)(f:b.length<=1000000):∃l,gN a b=some l/\xp .u32 (m:Int) (n:Int)=((m|||n:Nat):Int)/\Us l (m|||n)/\∀x,x∈l↔x∈a\/x∈b:=by
 obtain⟨l,j,k,g⟩:=Hs e f;refine⟨l,j,Kb c.lt d.lt,⟨TA (n:=32) (by have:=c.lt;omega) (by have:=d.lt;omega),λx o=>?_,k,λi=>?_⟩,g⟩
 ·rcases(g x).1 o with h|h
  ·exact c.pos x h
  ·exact d.pos x h
 ·rw[g,c.mem,d.mem,N3,p9]
def Us.bound{l:List Int}{m:Nat}(h:Us l m):∀x∈l,x<32:=by
 intro x a;have b:=h.pos x a;obtain⟨k,rfl⟩:=WW b;have:=(h.mem k).1 a;rcases sV k 32 with h1|h1
 ·omega
 ·exfalso;have c:m<2^k:=Qn h.lt (C9 (by decide:4294967296<=2^32) (Nat.pow_le_pow_right (by decide) h1));rw[Nat.testBit_lt_two_pow c] at this;cases this
def xw(k:Int)(l:List Int):List Int:=(l.filter λx=>decide (k<=x)).map λx=>x-k
def Gc{k:Int}(e:0<=k)(c:k<=1000):∀(l:List Int) (j:Nat) (v:List Int),(∀x∈l,0<=x/\x<32)->v.length+l.length<=1000000->fo (λ(f:Int) (a:Int)=>(λ(b:List Int)=>
   if(ue a k)=true then(
   hO (gy b [(fG .i64 a k)])<|some ((.next (gU b [(fG .i64 a k)])):gw (List Int) (List Int)))
   else(some (.next b)))) l j v=some (.inl (v++xw k l))
 |[],j,v,_,_=>by simp[xw]|x::l,j,v,h,g=>by
  simp only[l5] at g;have i:=h x (by simp);rw[fl]
  by_cases d:k<=x
  ·rw[ee (by rw[iX];exact d),fA (by simp;omega),eo,fF (by omega) (by omega)];simp only[cl,fv];rw[g_,Gc e c l (j+1) _ (λy hy=>h y (by simp[hy])) (by simp;omega)];simp[xw,d]
  ·rw[ea (by rw[iX];exact d)];simp only[cl,fv];rw[Gc e c l (j+1) v (λy hy=>h y (by simp[hy])) (by omega)];simp[xw,d]
def DS{l:List Int}{m:Nat}(h:Us l m)(d:l.length<=1000000){k:Int}(c:0<=k)(a:k<=1000):gS l k=some (xw k l):=by
 unfold gS;simp only[eA];rw[eC (by omega),eo,Gc c a l 0 [] (λx b=>⟨h.pos x b,h.bound x b⟩) (by simp;omega),cl,en,pk]
def Gl(k:Int)(l:List Int)(x:Int):x∈xw k l↔x+k∈l/\0<=x:=by
 unfold xw;simp only[oi,ZT,CY];constructor
 ·rintro⟨y,⟨a,b⟩,rfl⟩;exact⟨by rw[Int.sub_add_cancel];exact a,by omega⟩
 ·rintro⟨a,b⟩;exact⟨x+k,⟨a,by omega⟩,by omega⟩
def MZ(k:Int):∀{l:List Int},ES l->ES (xw k l)
 |[],_=>.nil|a::l,.cons f g=>by
  have c:=MZ k g
  by_cases d:k<=a
  ·have e:xw k (a::l)=(a-k)::xw k l:=by simp[xw,d]
   rw[e];refine .cons (λb h=>?_) c;have:=f _ ((Gl k l b).1 h).1;omega
  ·have e:xw k (a::l)=xw k l:=by simp[xw,d]
   rw[e];exact c
def Us.out{l:List Int}{m:Nat}(h:Us l m)(a:l.length<=1000000){k:Nat}(b:k<=32):gS l (k:Int)=some (xw k l)/\fH (m:Int) (k:Int)=some ((m/2^k:Nat):Int)/\Us (xw k l) (m/2^k):=by
 refine⟨DS h a (by omega) (by omega),?_,⟨Qo (Nat.div_le_self _ _) h.lt,λx c=>((Gl _ _ _).1 c).2,MZ _ h.YG,λi=>?_⟩⟩
 ·unfold fH;rw[show H6 (k:Int)=true by simp[H6],eo,R3 b]
 ·rw[Gl,show(i:Int)+(k:Int)=((i+k:Nat):Int) by omega,h.mem]
  have e:(m/2^k).testBit i=m.testBit (i+k):=by rw[Nat.testBit_div_two_pow]
  rw[e];exact⟨λh=>h.1,λh=>⟨h,by omega⟩⟩
def Tm.up_add(f b c:Int)(j:0<=b):∀(t:Tm) (d:Int),(t.up (f+d) b).up (f+d) c=t.up (f+d) (b+c):=by
 intro t
 induction t using Tm.ind with
 |h k i s l e=>
  intro d;rw[Tm.kl,Tm.kl,Tm.kl]
  congr 1
  ·by_cases a:k=1/\f+d<=i
   ·rw[ee a,ee ⟨a.1,by omega⟩];omega
   ·rw[ea a,ea a,ea a]
  ·rw[Fs]
   exact uQ λx g=>by
    have:=e x g (d+gk k);rw[show f+(d+gk k)=f+d+gk k by omega] at this;exact this
def Fm.up_add(f b c:Int)(a:0<=b):∀(t:Fm) (d:Int),(t.up (f+d) b).up (f+d) c=t.up (f+d) (b+c):=by
 intro t
 induction t using Fm.ind with
 |h k s ts l e=>
  intro d;rw[Fm.kl,Fm.kl,Fm.kl]
  congr 1
  ·rw[Fs];exact uQ λx _=>Tm.up_add f b c a x d
  ·rw[Fs]
   exact uQ λx g=>by
    have:=e x g (d+qB k);rw[show f+(d+qB k)=f+d+qB k by omega] at this;exact this
def Fm.Xd(t:Fm){b c:Int}(a:0<=b):(t.up 0 b).up 0 c=t.up 0 (b+c):=by
 have:=Fm.up_add 0 b c a t 0
 rwa [wq] at this
def Fm.M8(t:Fm):∀f,t.up f 0=t:=by
 induction t using Fm.ind with
 |h k s ts l a=>
  intro f;rw[Fm.kl]
  congr 1
  ·rw[uQ (g:=id) λx _=>Tm.uW x _];simp
  ·rw[uQ (g:=id) λx b=>a x b _];simp
def Fm.uW(t:Fm):t.up 0 0=t:=Fm.M8 t 0
structure Hy (f:Fm):Prop where
 err:f.err=0
 acS:f.acS 536870912=true
structure UY (p:eg) (c:ei):Prop where
 acQ:p.acQ=c.acQ.map tk
 vars:p.gj.vars=(c.acQ.length:Int)
 acT:p.gj.acT=(c.acT.length:Int)
 ctx:iV c.acQ
 nv:c.acQ.length<=16
 nh:c.acT.length<=16
 known:p.known.length=c.acT.length
 hyp:∀(i:Nat) (x:eu) (h:Fm),p.known[i]?=some x->c.acT[i]?=some h->Hy x.eh/\0<=x.vars/\x.vars<=c.acQ.length/\h=x.eh.up 0 (c.acQ.length-x.vars)
def UY.with{p:eg}{c:ei}(h:UY p c){f:Fm}(m:Hy f)(hn:c.acT.length+1<=16):∃j d,gi p f=some j/\gE c f=some d/\UY j d/\d.lemmas=c.lemmas/\d.acQ=c.acQ/\d.acT=c.acT++[f]:=by
 unfold gi gE;have k:=h.known;rw[fA (by simp;omega),eo,fA (by simp;omega),eo];refine⟨_,_,rfl,rfl,⟨h.acQ,h.vars,?_,h.ctx,h.nv,?_,?_,?_⟩,rfl,rfl,by simp only[g_]⟩
 ·show fk .i64 p.gj.acT 1=_;rw[h.acT,fu (by have:=h.nh;omega) (by have:=h.nh;omega),g_];simp
 ·show(gU c.acT [f]).length<=16;rw[g_];simpa using hn
 ·show(gU p.known _).length=(gU c.acT [f]).length;simp[g_,k]
 ·intro i x g b a
  have b:(p.known++[eu.mk f p.gj.vars])[i]?=some x:=by rw[<-g_];exact b
  have a:(c.acT++[f])[i]?=some g:=by rw[<-g_];exact a
  rcases sV i c.acT.length with e|hge
  ·rw[r_ (by omega)] at b;rw[r_ e] at a;exact h.hyp i x g b a
  ·have hi:i=c.acT.length:=by
    have:=(pK.1 a).1;simp at this;omega
   subst hi;rw[uo (by omega),k,aaw] at b;rw[uo (by omega),aaw] at a;have n:eu.mk f p.gj.vars=x:=iD b;have o:f=g:=iD a;subst n;subst o;have l:=h.vars;refine⟨m,by show 0<=p.gj.vars;omega,by show p.gj.vars<=_;exact Int.le_of_eq l,?_⟩;show f=f.up 0 (c.acQ.length-p.gj.vars);rw[l,Int.sub_self];exact(Fm.uW f).symm
def iV.append{g l:List Ty}(h:iV g)(a:iV l):iV (g++l):=λs hs=>(tj.1 hs).elim (h s) (a s)
def DU{g l:List Ty}(a:iV l)(b:g.length+l.length<=900000):gI (g.map tk) l=some ((g++l).map tk):=by
 unfold gI;rw[vP a (by omega),cl,fA (by simp;omega),eo,g_,Zx]
def UY.below{p:eg}{c:ei}(h:UY p c){l:List Ty}(k:iV l)(hn:c.acQ.length+l.length<=16)(n:∀f∈c.acT,f.err=0/\f.acS 1000000000=true):∃m b,fZ p l=some m/\fJ c l=some b/\UY m b/\b.lemmas=c.lemmas/\b.acQ=c.acQ++l/\b.acT=c.acT.map (Fm.up 0 l.length):=by
 have o:=h.nh
 have q:fZ p l=some (eg.mk (fa.mk (p.gj.vars+l.length) p.gj.acT) ((c.acQ++l).map tk) p.known):=by
  unfold fZ;rw[h.acQ,DU k (by omega),cl];have:=h.vars;rw[fV,fu (by omega) (by omega)]
 have r:fJ c l=some (ei.mk c.lemmas (c.acQ++l) (c.acT.map (Fm.up 0 l.length))):=by
  unfold fJ;simp only[eA]
  rw[fA (by omega),eo,eC (by omega),eo,jq (Fm.up 0 l.length) c.acT 0 [] (by simp;omega) (λj x v s t=>by
   obtain⟨q1,u⟩:=n x s;obtain⟨w,y⟩:=Fm.hZ q1
   rw[fV,ui FU x 0 l.length (by rw[fC];omega) (by omega) (by omega) (by omega) (by omega) (by omega) (Fm.m6 x (by omega) u),cl,fA (by simpa using t),eo,g_])]
  rw[cl,en,g_,pk]
 refine⟨_,_,q,r,⟨rfl,?_,?_,h.ctx.append k,?_,?_,?_,?_⟩,rfl,rfl,rfl⟩
 ·show p.gj.vars+l.length=((c.acQ++l).length:Int);rw[h.vars];simp
 ·show p.gj.acT=((c.acT.map (Fm.up 0 l.length)).length:Int);rw[h.acT];simp
 ·show(c.acQ++l).length<=16;simpa using hn
 ·show(c.acT.map (Fm.up 0 l.length)).length<=16;simpa using h.nh
 ·show p.known.length=(c.acT.map (Fm.up 0 l.length)).length;simpa using h.known
 ·intro i x g d a;have d:p.known[i]?=some x:=d;have a:(c.acT.map (Fm.up 0 l.length))[i]?=some g:=a;rw[tN] at a;cases e:c.acT[i]?with
  |none=>rw[e] at a;cases a
  |some g0=>
   rw[e] at a;have a:g0.up 0 l.length=g:=iD a;obtain⟨a1,a2,a3,a4⟩:=h.hyp i x g0 d e;refine⟨a1,a2,?_,?_⟩
   ·show x.vars<=((c.acQ++l).length:Int);simp;omega
   ·show g=x.eh.up 0 (((c.acQ++l).length:Int)-x.vars);rw[<-a,a4,Fm.Xd _ (by omega)]
    congr 1
    simp;omega
def UY.OM{p:eg}{c:ei}(h:UY p c){i:Int}(hi:0<=i):if(c.acT.length:Int)<=i then lx p i=some (.mk 0 (.mk 0 []) [] [],false)else∃f,eI c.acT (fG .i64 (fG .i64 (eN c.acT) 1) i)=some f/\lx p i=some (f,true):=by
 have g:=h.nh;have j:=h.known;unfold lx;rw[fV,j]
 split
 ·rename_i d;rw[ee (by rw[iX];exact d)]
 ·rename_i d;rw[ea (by rw[iX];exact d),fV,fF (a:=(c.acT.length:Int)) (by omega) (by omega),fF (by omega) (by omega)]
  have b:(((c.acT.length:Int)-1-i).toNat)<c.acT.length:=by omega
  have e:(c.acT.length:Int)-1-i=((((c.acT.length:Int)-1-i).toNat:Nat):Int):=by omega
  rw[e,jJ,jJ,oG b,oG (by omega)];obtain⟨a1,a2,a3,a4⟩:=h.hyp _ _ _ (oG (by omega)) (oG b);refine⟨_,rfl,?_⟩;obtain⟨k,m⟩:=Fm.hZ a1.err;have l:=h.nv;rw[cl,h.vars,fF (by omega) (by omega),uB k (by omega) (Fm.m6 _ (by omega) a1.acS) (by omega) (by omega) (by omega) (by omega),cl,<-a4]
def T7{t:Tm}(m:t.ok=true):vK t=some t.root:=by
 unfold vK;simp only[eA];cases t with
 |mk k i s l=>
  show(if(eH k 3)=true then(cv (eI l 0) λg=>some (eH g.acM 2))else(
   if(eH k 6)=true then(cv (eI l 2) λe=>if(eH e.acM 4)=true then some true else some (eH e.acM 5))else(
   if(eH k 9)=true then(cv (eI l 2) λf=>if(eH f.acM 7)=true then some true else some (eH f.acM 8))else(
   if(fW (eH k 11) true (eH k 12))=true then(cv (eI l 0) λh=>some (eH h.acM 10))else some false))))=_
  unfold Tm.root
  by_cases n:k=3
  ·subst n;obtain⟨a,b,rfl⟩:=Tm.ok3 m;rw[ee (by decide)];simp[eU,Tm.kd,uU]
  ·rw[ea (by simpa using n)]
   by_cases o:k=6
   ·subst o;obtain⟨a,b,c,rfl⟩:=Tm.ok6 m;rw[ee (by decide)];simp only[jH,mT,jA,cl,Tm.kd,gA]
    by_cases j:c.acM=4
    ·simp[j]
    ·simp[j,uU]<;>exact Rq.2 Iff.rfl
   ·rw[ea (by simpa using o)]
    by_cases p:k=9
    ·subst p;obtain⟨a,b,c,rfl⟩:=Tm.ok9 m;rw[ee (by decide)];simp only[jH,mT,jA,cl,Tm.kd,gA]
     by_cases j:c.acM=7
     ·simp[j]
     ·simp[j,uU]<;>exact Rq.2 Iff.rfl
    ·rw[ea (by simpa using p)]
     by_cases d:k=11\/k=12
     ·obtain⟨a,rfl⟩:=Tm.Xt d m;rw[ee (by rcases d with rfl|rfl<;>rfl)];simp only[eU,jA,cl,Tm.kd];rcases d with rfl|rfl<;>simp[uU]<;>exact Rq.2 Iff.rfl
     ·rw[ea (by simp only[mm,p9,gA];exact d)];simp only[not_or] at d;simp[n,o,p,d.1,d.2]
def yW{t:Tm}(h:t.acO<=1000000000):gh FU t=some (t.acO:Int):=oy FU t (by rw[fC];exact h) h
def QG{t:Tm}(o:t.ok=true)(hn:t.acO<=8192)(f:t.root=true):sk t=some ((t.gb.acO:Int)-(t.acO:Int)):=by
 have j:=Tm.Jx o f;have p:=hn;unfold sk;rw[yW (by omega)];simp only[cl];cases j with
 |app=>
  rename_i i s c d b a;have l:=Tm.xa (Tm.xa o (.mk 2 c d [b]) (by simp)) b (by simp);rw[Tm.ef] at hn;simp only[ez,Tm.ef] at hn;rw[ee (by rfl)];simp only[Tm.eF,eU,gu,jA,mT,cl];rw[yW (t:=b) (by omega),yW (t:=a) (by omega),zg FU b 0 (by rw[fC];omega) (by omega) (by omega) (by omega)];simp only[cl];have q:=Tm.jf b 0;have hmul:b.acU 0*a.acO<=8192*8192:=XJ (by omega) (by omega);have r:=Tm.r7 a b 0 l;have u:=a.eP
  have e:(Tm.mk 3 i s [.mk 2 c d [b],a]).gb=Tm.jF 0 b a:=by simp[Tm.gb]
  rw[e]
  have hint:(b.acU 0:Int)*((a.acO:Int)-1)=((b.acU 0*a.acO:Nat):Int)-(b.acU 0:Int):=by rw[aak,Zs];simp
  rw[fF (a:=(a.acO:Int)) (by omega) (by omega),Ay (by rw[hint];omega) (by rw[hint];omega),hint,fu (by omega) (by omega),fF (by omega) (by omega)]
  congr 1
  omega
 |proj m=>
  rename_i k i s c d a b;rw[Tm.ef] at hn;simp only[ez,Tm.ef] at hn;rcases m with rfl|rfl
  ·rw[ea (by simp),ea (by simp),ea (by simp),ee (by rfl)];simp only[Tm.eF,eU,gu,jA,mT,cl];rw[yW (t:=a) (by omega)];simp only[cl];rw[fF (by omega) (by omega)];simp[Tm.gb]
  ·rw[ea (by simp),ea (by simp),ea (by simp),ea (by simp)];simp only[Tm.eF,eU,gu,jA,mT,cl];rw[yW (t:=b) (by omega)];simp only[cl];rw[fF (by omega) (by omega)];simp[Tm.gb]
 |zero m=>
  rename_i k v i s c d b st;rw[Tm.ef] at hn;simp only[ez,Tm.ef] at hn
  have g:k≠3/\k≠11/\k≠12:=by omega
  have:(Tm.mk k i s [b,st,.mk v c d []]).gb=b:=by simp[Tm.gb,g.1,g.2.1,g.2.2]
  rw[this];rcases m with⟨rfl,rfl⟩|⟨rfl,rfl⟩
  ·rw[ea (by simp),ee (by rfl)];simp only[Tm.eF,eU,gu,jH,jA,mT,cl];rw[ee (by rfl),yW (t:=b) (by omega)];simp only[cl];rw[fF (by omega) (by omega)]
  ·rw[ea (by simp),ea (by simp),ee (by rfl)];simp only[Tm.eF,eU,gu,jH,jA,mT,cl];rw[ee (by rfl),yW (t:=b) (by omega)];simp only[cl];rw[fF (by omega) (by omega)]
 |succ=>
  rename_i i s c d b st n
  have e:(Tm.mk 6 i s [b,st,.mk 5 c d [n]]).gb=l6 st [n,.mk 6 i s [b,st,n]]:=by simp[Tm.gb,l6]
  rw[e,pg];rw[Tm.ef] at hn|-;simp only[ez,Tm.ef,l5,wv] at hn|-;rw[ea (by simp),ee (by rfl)];simp only[Tm.eF,eU,gu,jH,jA,mT,cl];rw[ea (by simp),yW (t:=st) (by omega),yW (t:=n) (by omega)];simp only[cl];rw[fu (a:=2) (by omega) (by omega),fu (b:=(n.acO:Int)) (by omega) (by omega),fu (by omega) (by omega),fF (b:=1) (by omega) (by omega),fF (by omega) (by omega)]
  congr 1
  omega
 |cons=>
  rename_i i s c d b st h n
  have e:(Tm.mk 9 i s [b,st,.mk 8 c d [h,n]]).gb=l6 st [h,n,.mk 9 i s [b,st,n]]:=by simp[Tm.gb,l6]
  rw[e,pg];rw[Tm.ef] at hn|-;simp only[ez,Tm.ef,l5,wv] at hn|-;rw[ea (by simp),ea (by simp),ee (by rfl)];simp only[Tm.eF,eU,gu,jH,jA,mT,cl];rw[ea (by simp),yW (t:=st) (by omega),yW (t:=h) (by omega),yW (t:=n) (by omega)];simp only[cl];rw[fu (a:=3) (by omega) (by omega),fu (b:=(h.acO:Int)) (by omega) (by omega),fu (b:=(n.acO:Int)) (by omega) (by omega),fu (by omega) (by omega),fF (b:=1) (by omega) (by omega),fF (b:=(h.acO:Int)) (by omega) (by omega),fF (by omega) (by omega)]
  congr 1
  omega
def N8{M:Int}(o:0<=M/\M<=1000000000000){t:Tm}(hs:Sm M t)(hn:t.acO<=8192)(c:t.root=true):rb t=some t.gb:=by
 have j:=hs.ok;have l:=Tm.Jx j c;have hw:=Tm.jC t j;unfold rb;cases l with
 |app=>
  rename_i i s e f b a;have d:=(hs.arg (.mk 2 e f [b]) (by simp)).arg b (by simp);have g:=hs.arg a (by simp);have p:=d.acO;have q:=g.acO;rw[ee (by rfl)];simp only[Tm.eF,eU,gu,jA,mT,cl];rw[EZ FU b 0 0 a (by rw[fC];omega) (by omega) (by omega) (by omega) (by omega) (d.mono o.2).acS d.ok (by omega) (g.mono o.2).acS];simp[Tm.gb]
 |proj m=>
  rename_i k i s e f a b;rcases m with rfl|rfl
  ·rw[ea (by simp),ea (by simp),ea (by simp),ee (by rfl)];simp[Tm.gb,eU]
  ·rw[ea (by simp),ea (by simp),ea (by simp),ea (by simp)];simp[Tm.gb,eU,gu]
 |zero m=>
  rename_i k r i s e f b st;rcases m with⟨rfl,rfl⟩|⟨rfl,rfl⟩
  ·rw[ea (by simp),ee (by rfl)];simp[Tm.gb,eU,jH,eH]
  ·rw[ea (by simp),ea (by simp),ee (by rfl)];simp[Tm.gb,eU,jH,eH]
 |succ=>
  rename_i i s e f b st n;have hi:i=0:=(Tm.lB j).2.2.1 (by decide);subst hi;rw[Tm.fM] at hw;simp only[ez,Tm.fM] at hw;rw[ea (by simp),ee (by rfl)];simp only[Tm.eF,eU,gu,jH,jA,mT,cl,Tm.ft];rw[ea (by simp),uc (by omega) (by omega)];simp only[cl];rw[Ct (by omega) (by omega) (by omega) (by omega)];simp only[cl];rw[pj _ _ (by simp only[ez,Tm.fM,Ty.z,Ty.ef];omega)];simp[Tm.gb,l6,Ty.z]
 |cons=>
  rename_i i s e f b st h n;have hi:i=0:=(Tm.lB j).2.2.1 (by decide);subst hi;rw[Tm.fM] at hw;simp only[ez,Tm.fM] at hw;rw[ea (by simp),ea (by simp),ee (by rfl)];simp only[Tm.eF,eU,gu,jH,jA,mT,cl,Tm.ft];rw[ea (by simp),uc (by omega) (by omega)];simp only[cl];rw[pj _ _ (by simp only[ez,Tm.fM,Ty.z,Ty.ef];omega)];simp only[cl];rw[Ct (by omega) (by omega) (by omega) (by omega)];simp only[cl];rw[pj _ _ (by simp only[ez,Tm.fM,Ty.z,Ty.ef];omega)];simp[Tm.gb,l6,Ty.z]
def X9(t:Tm)(o:Option (Option Tm))(r:Tm×Bool×Bool):Prop:=
 match o with
 |none=>r.2.1=true/\r.2.2=false|some none=>r=(t,false,true)|some (some a)=>r=(a,true,true)
def Pa{M:Int}(C:0<=M/\M<=1000000000000)(room:Int):∀(n:Nat) (t:Tm),t.acO<=n->Sm M t->t.acO<=8192->∃r,o6 n t room=some r/\X9 t (t.FO room) r
 |0,t,hn,_,_=>by have:=t.eP;omega
 |n+1,.mk k i s l,hn,hs,B=>by
  rw[o6,T7 hs.ok];simp only[cl];rw[Tm.xg]
  by_cases p:(Tm.mk k i s l).root=true
  ·rw[ee p,ee p,QG hs.ok B p];simp only[cl,gW]
   by_cases hg:((Tm.mk k i s l).gb.acO:Int)-((Tm.mk k i s l).acO:Int)>room
   ·rw[ee hg,ee hg];exact⟨_,rfl,rfl,rfl⟩
   ·rw[ea hg,ea hg,N8 C hs B p];exact⟨_,rfl,rfl⟩
  ·rw[ea p,ea p];rw[Tm.ef] at hn B;have hlen:=Tm.ZU hs.ok;simp only[Tm.eF,eA,eC (l:=l) (by omega),eo,Tm.eM,Tm.gl,Tm.ft]
   have key:∀(ts pre:List Tm),l=pre++ts->∃o,fo (λ(a:Int) (v:Tm)=>(λ(_:Unit)=>
     iL (o6 n v room) λw x y=>
     if x=true then(
     hO (yK l)<|cv (eI l a) λD=>
     some (gw.ret ((Tm.mk k i s (xj l a w)),true,y)))
     else(some (.next ())))) ts pre.length ()=some o/\(match Tm.rB room ts with
      |none=>∃r:Tm×Bool×Bool,o=.inr r/\r.2.1=true/\r.2.2=false|some none=>o=.inl ()|some (some g)=>o=.inr (Tm.mk k i s (pre++g),true,true)):=by
    intro ts
    induction ts with
    |nil=>intro pre _;exact⟨_,rfl,by rw[Tm.rB]⟩|cons t ts E=>
     intro pre z
     have h:t∈l:=by rw[z];simp
     have F:=eJ Tm.acO h;obtain⟨⟨u,b,c⟩,G,j⟩:=Pa C room n t (by omega) (hs.arg t h) (by omega);rw[fl];simp only[G,ow]
     have d:eI l ((pre.length:Nat):Int)=some t:=by
      unfold eI;rw[ee (by omega)];rw[z];simp
     have gC:xj l ((pre.length:Nat):Int) u=pre++u::ts:=by
      unfold xj;rw[z,AX,GK]
     have f:yK l=true:=by
      unfold yK Lw;have:0<l.length:=List.length_pos_of_mem h;exact wh (by omega)
     rw[Tm.rB];unfold X9 at j;cases e:t.FO room with
     |none=>
      rw[e] at j;obtain⟨q1,A⟩:=j;simp only at q1 A;rw[ee q1,f,eo,d];exact⟨_,rfl,_,rfl,rfl,A⟩
     |some o=>
      cases o with
      |none=>
       rw[e] at j;obtain⟨rfl,q⟩:=iq j;obtain⟨rfl,rfl⟩:=iq q;rw[ea (by decide)];simp only[cl,fv];obtain⟨o,o1,o2⟩:=E (pre++[u]) (by rw[z];simp);rw[sK] at o1;refine⟨o,o1,?_⟩;cases m:Tm.rB room ts with
       |none=>rw[m] at o2;exact o2
       |some q=>
        cases q with
        |none=>rw[m] at o2;exact o2
        |some g=>rw[m] at o2;simpa using o2
      |some H=>
       rw[e] at j;obtain⟨rfl,q⟩:=iq j;obtain⟨rfl,rfl⟩:=iq q;rw[ee rfl,f,eo,d];simp only[cl,gC];exact⟨_,rfl,rfl⟩
   obtain⟨o,o1,o2⟩:=key l [] rfl;rw[show(([]:List Tm).length)=0 from rfl] at o1;rw[o1];cases m:Tm.rB room l with
   |none=>
    rw[m] at o2;obtain⟨r,rfl,q1,A⟩:=o2;exact⟨r,rfl,q1,A⟩
   |some q=>
    cases q with
    |none=>rw[m] at o2;subst o2;exact⟨_,rfl,rfl⟩
    |some g=>rw[m] at o2;subst o2;exact⟨_,rfl,rfl⟩
def tr{t:Tm}(h:t.err=0):t.ok=true/\t.acO<=4096:=Tm.hZ h
def CG(steps:Int)(z:0<=steps/\steps<=65536):∀(k:Nat) (m:Int) (t:Tm) (N:Nat),(k:Int)=steps-m->0<=m->Sm (536870912+8192*m) t->t.acO<=4096->k<N->qR ((Qt λ(d:Int) (f:Int) (g:Int) (i:Int) (j:List Ty) (l:List Tm)=>
   cv (gh FU (Tm.mk f g (Ty.mk i j) l)) λr=>
   iL (o6 FU (Tm.mk f g (Ty.mk i j) l) (fG .i64 4096 r)) λa s v=>
   if s=true then(
   if(eH d steps)=true then(
   some (.ret ((Tm.mk 0 0 (Ty.mk 0 []) []),0,5)))
   else(if v=true then(
   some (.next ((fk .i64 d 1),a.acM,a.acP,a.dv.acM,a.dv.acN,a.acN)))
   else(some (.ret ((Tm.mk 0 0 (Ty.mk 0 []) []),0,4)))))
   else(cv (jI FU (Tm.mk f g (Ty.mk i j) l)) λw=>
   some (.ret (w,d,0)))):(Int×Int×Int×Int×(List Ty)×(List Tm))->(Option (gw (Int×Int×Int×Int×(List Ty)×(List Tm)) (Tm×Int×Int)))) N (m,t.acM,t.acP,t.dv.acM,t.dv.acN,t.acN)=some (.inr (t.norm k m))
 |k,m,t,0,_,_,_,_,A=>by omega|k,m,t,N+1,C,hm,hs,hn,A=>by
  rw[oa];simp only[wT,WG];have hw:=Tm.jC t hs.ok;rw[yW (by omega)];simp only[cl];rw[fF (by omega) (by omega)];obtain⟨⟨u,b,c⟩,B,n⟩:=Pa (M:=536870912+8192*m) (by omega) (4096-t.acO) FU t (by rw[fC];omega) hs (by omega);rw[B];simp only[ow];unfold X9 at n;cases e:t.FO (4096-t.acO)with
  |none=>
   rw[e] at n;obtain⟨q1,y⟩:=n;simp only at q1 y;rw[ee q1];cases k with
   |zero=>
    have p:¬t.nf=true:=by
     intro h;rw[(Hk _ t).1 h] at e;cases e
    rw[ee (by simp[eH];omega),Tm.norm,ea p];rfl
   |succ k=>
    rw[ea (by simp[eH];omega),ea (by rw[y];decide),LF e];rfl
  |some o=>
   cases o with
   |none=>
    rw[e] at n;obtain⟨rfl,q⟩:=iq n;obtain⟨rfl,rfl⟩:=iq q;rw[ea (by decide),nR (by omega)];cases k with
    |zero=>rw[Tm.norm,ee ((Hk _ _).2 e)];rfl|succ k=>rw[AB e];rfl
   |some D=>
    rw[e] at n;obtain⟨rfl,q⟩:=iq n;obtain⟨rfl,rfl⟩:=iq q;rw[ee rfl];cases k with
    |zero=>
     have p:¬t.nf=true:=by
      intro h;rw[(Hk _ t).1 h] at e;cases e
     rw[ee (by simp[eH];omega),Tm.norm,ea p];rfl
    |succ k=>
     obtain⟨s1,s2,E⟩:=KD (M:=536870912+8192*m) (by omega) t hs (by omega) _ e;rw[ea (by simp[eH];omega),ee rfl,JP e,fu (by omega) (by omega)];have x:Sm (536870912+8192*(m+1)) u:=⟨s1,by rw[show 536870912+8192*(m+1)=536870912+8192*m+8192 by omega];exact s2,by omega⟩;exact CG steps z k (m+1) u N (by omega) (by omega) x (by omega) (by omega)
def JD:∀(k:Nat) (m:Int) (t p:Tm) (n e:Int),t.norm k m=(p,n,e)->e≠0->p=Tm.z
 |0,m,t,p,n,e,h,he=>by
  rw[Tm.norm] at h
  split at h
  ·obtain⟨_,h⟩:=iq h;obtain⟨_,h⟩:=iq h;exact absurd h.symm he
  ·exact(iq h).1.symm
 |k+1,m,t,p,n,e,h,he=>by
  rw[Tm.norm] at h
  split at h
  ·exact(iq h).1.symm
  ·obtain⟨_,h⟩:=iq h;obtain⟨_,h⟩:=iq h;exact absurd h.symm he
  ·exact JD k _ _ _ _ _ h he
def zY{t:Tm}(hw:t.wt<=1000000)(steps:Int):∃p m e,kM t steps=some (p,m,e)/\mE t steps=some (p,m,e)/\p.wt<=1000000000:=by
 have i:=t.iS
 have c:Tm.z.wt<=1000000000:=by decide
 have a:=xy (t:=t) (by omega) steps;unfold mE;rw[ni (by omega)];simp only[cl]
 by_cases he:t.err=0
 ·obtain⟨j,hn⟩:=tr he;rw[ee he] at a;rw[ea (by simp[eW,he])];simp only[eA,mD,gW]
  by_cases a1:steps<0
  ·rw[ea (by omega)] at a;rw[ee a1,ee trivial];exact⟨_,_,_,a,rfl,c⟩
  ·rw[ea a1]
   by_cases a2:steps>65536
   ·rw[ea (by omega)] at a;rw[ee a2,ee trivial];exact⟨_,_,_,a,rfl,c⟩
   ·rw[ea a2,zC FU t 536870912 (by rw[fC];omega) (by omega)];simp only[cl]
    by_cases b:t.acS 536870912=true
    ·rw[ee ⟨by omega,by omega,b⟩] at a;have hs:Sm 536870912 t:=⟨j,b,by omega⟩;rw[b,ea (by decide),CG steps (by omega) steps.toNat 0 t FU (by omega) (by omega) hs (by omega) (by rw[fC];omega)];generalize d:t.norm steps.toNat 0=o at a;obtain⟨p,m,e⟩:=o;refine⟨p,m,e,a,rfl,?_⟩;have f:=M0 steps.toNat 0 t
     by_cases g:e=0
     ·subst g;obtain⟨q1,k⟩:=FZ _ 536870912 _ _ _ _ (by omega) hs hn d;have:=Tm.jC p q1.ok;omega
     ·rw[JD _ _ _ _ _ _ d g];exact c
    ·rw[ea (λh=>b h.2.2)] at a;rw[ee (by rw[Bool.not_eq_true] at b;rw[b];rfl)];exact⟨_,_,_,a,rfl,c⟩
 ·rw[ea he] at a;rw[ee (by simp[eW,he])];exact⟨_,_,_,a,rfl,c⟩
def JT{a b:Tm}(c:a.wt<=1000000000):∃r,rC a b=some r/\ku FU a b=some r:=by
 obtain⟨r,d,e⟩:=xb (b:=b) c;obtain⟨q,q1,f⟩:=A6 FU a b (by rw[fC];exact c) c
 have:r=q:=by rw[CM,e,f]
 subst this;exact⟨r,d,q1⟩
def Nv{a b:Tm}(l:a.wt<=1000000)(o:b.wt<=1000000)(steps:Int):∃c,lM a b steps=some c/\rX a b steps=some c:=by
 unfold lM rX;rw[ql (by omega),ql (t:=b) (by omega),ni (by omega),ni (t:=b) (by omega)];simp only[cl]
 by_cases d:eW a.err 0=true
 ·rw[ee d,ee d];exact⟨_,rfl,rfl⟩
 ·rw[ea d,ea d]
  by_cases g:eW b.err 0=true
  ·rw[ee g,ee g];exact⟨_,rfl,rfl⟩
  ·rw[ea g,ea g];obtain⟨r,u,v⟩:=JT (a:=a) (b:=b) (by omega);rw[u,v];simp only[cl]
   by_cases h:r=true
   ·rw[ee h,ee h];exact⟨_,rfl,rfl⟩
   ·rw[ea h,ea h];obtain⟨p,m,e,w,x,y⟩:=zY l steps;obtain⟨q,n,f,q1,z,A⟩:=zY o steps;rw[w,x,q1,z];simp only[ow]
    by_cases i:eW e 0=true
    ·rw[ee i,ee i];exact⟨_,rfl,rfl⟩
    ·rw[ea i,ea i]
     by_cases j:eW f 0=true
     ·rw[ee j,ee j];exact⟨_,rfl,rfl⟩
     ·rw[ea j,ea j];obtain⟨s,s1,s2⟩:=JT (a:=p) (b:=q) y;rw[s1,s2];simp only[cl]
      by_cases k:s=true
      ·rw[ee k];exact⟨_,rfl,rfl⟩
      ·rw[ea k];exact⟨_,rfl,rfl⟩
def Eh{α:Type}{E E':α->α->Option Int}{M:List α}:∀(l:List α) (i:Nat),(∀x∈l,∀y∈M,∃c,E x y=some c/\E' x y=some c)->i+l.length<=M.length->∃o,fo (λ(d:Int) (e:α)=>(λ(_:Unit)=>cv (eI M d) λb=>cv (E e b) λa=>if(eW a 0)=true then(some (.ret a))else(some ((.next ()):gw Unit Int)))) l i ()=some o/\fo (λ(d:Int) (e:α)=>(λ(_:Unit)=>cv (eI M d) λb=>cv (E' e b) λa=>if(eW a 0)=true then(some (.ret a))else(some ((.next ()):gw Unit Int)))) l i ()=some o
 |[],i,_,_=>⟨.inl (),by simp,by simp⟩|x::l,i,h,g=>by
  simp only[l5] at g;obtain⟨c,j,k⟩:=h x (by simp) M[i] (Cl (by omega));rw[fl,fl,jJ,oG (by omega)];simp only[cl,j,k]
  by_cases f:eW c 0=true
  ·rw[ee f];exact⟨.inr c,rfl,rfl⟩
  ·rw[ea f];simp only[cl,fv];exact Eh l (i+1) (λy hy=>h y (by simp[hy])) (by omega)
def Fm.shape{k:Int}{s f:Ty}{ts us:List Tm}{l m:List Fm}(h:(Fm.mk k s ts l).ok=true)(d:(Fm.mk k f us m).ok=true):ts.length=us.length/\l.length=m.length:=by
 rw[Fm.ia] at h d;simp only[gO] at h d;have c:=h.1.1;have a:=d.1.1;unfold Fm.node at c a
 split at c
 ·rename_i e;rw[ee e] at a;simp only[gO,nA] at c a;omega
 ·rename_i e;rw[ea e] at a
  split at c
  ·rename_i b;rw[ee b] at a;simp only[gO,nA] at c a;omega
  ·rename_i b;rw[ea b] at a;simp only[gO,nA] at c a;omega
def OQ:∀(n:Nat) (a b:Fm),a.wt<=n->a.wt<=1000000->b.wt<=1000000->a.ok=true->b.ok=true->∃c,jM n a b=some c/\oM n a b=some c:=by
 intro n
 induction n with
 |zero=>intro t b h;have:=t.jB;omega
 |succ n w=>
  intro a b h z g p d;cases a with
  |mk k s ts l=>
  cases b with
  |mk k' A us m=>
   rw[Fm.fM] at h z g;have D:=Fm.oz l;have B:=Tm.oz ts;rw[jM,oM];simp only[Fm.eF,Fm.eM,Fm.hY,Fm.ft,eA,eC (l:=l) (by omega),eC (l:=ts) (by omega),eo,ew]
   by_cases e:k≠k'
   ·rw[ee e,ee e];exact⟨11,rfl,rfl⟩
   ·rw[ea e,ea e,p_ (by omega),jg (by omega)];simp only[cl];have i:k=k':=vE.1 e;subst i;obtain⟨s1,s2⟩:=Fm.shape p d;obtain⟨_,F,ol⟩:=Fm.rf p;obtain⟨_,C,j⟩:=Fm.rf d;cases s.kL A with
    |false=>exact⟨11,rfl,rfl⟩|true=>
     obtain⟨o,q,k2⟩:=Eh (E:=λx y=>lM x y 1000) (E':=λx y=>rX x y 1000) (M:=us) ts 0 (λx f y hy=>Nv (by have:=eJ Tm.wt f;omega) (by have:=eJ Tm.wt hy;omega) 1000) (by omega);simp only[ew] at q k2;rw[ea (by decide),ea (by decide),q,k2];cases o with
     |inr r=>exact⟨r,rfl,rfl⟩|inl u=>
      simp only[cl,en];obtain⟨o,q1,v⟩:=Eh (E:=λx y=>jM n x y) (E':=λx y=>oM n x y) (M:=m) l 0 (λx f y hy=>w x y (by have:=eJ Fm.wt f;omega) (by have:=eJ Fm.wt f;omega) (by have:=eJ Fm.wt hy;omega) (ol x f) (j y hy)) (by omega);simp only[ew] at q1 v;rw[q1,v];cases o with
      |inr r=>exact⟨r,rfl,rfl⟩|inl u=>exact⟨0,rfl,rfl⟩
def BG{a b:Fm}(f:a.wt<=1000000000)(g:b.wt<=1000000000):∃c,i_ a b=some c/\oQ a b=some c:=by
 unfold i_ oQ;rw[ly f,ly g,m_ f,m_ g];simp only[cl,ew]
 by_cases d:a.err≠0
 ·rw[ee d,ee d];exact⟨_,rfl,rfl⟩
 ·rw[ea d,ea d]
  by_cases e:b.err≠0
  ·rw[ee e,ee e];exact⟨_,rfl,rfl⟩
  ·rw[ea e,ea e];obtain⟨o1,n1⟩:=Fm.hZ (vE.1 d);obtain⟨o2,n2⟩:=Fm.hZ (vE.1 e);have j:=a.jC o1;have k:=b.jC o2;obtain⟨c,h,i⟩:=OQ FU a b (by rw[fC];omega) (by omega) (by omega) o1 o2;rw[h,i];exact⟨c,rfl,rfl⟩
def zp{g:List Ty}{x:Tm}{t:Ty}(h:eY g x t)(hg:iV g)(a:g.length+x.acO<=1000000):x.ty g=(t,0):=by
 have b:=(Tn h hg).2 x.acO (jw _) a;rw[z7 x.acO x (jw _) h.ok g hg a] at b;exact iD b
def Ma{g:List Ty}{x:Tm}(c:x.ok=true)(hg:iV g)(h:pN x g 1=0):eY g x .nat:=by
 unfold pN at h
 split at h
 ·cases h
 ·rename_i d
  have e:(x.ty g).1.acM=1:=by
   rcases Int.emod_two_eq (x.ty g).1.acM with _|_<;>
   ·by_cases a:(x.ty g).1.acM=1
    ·exact a
    ·exact absurd ⟨h,a⟩ d
  obtain⟨b,f⟩:=re _ x (jw _) c g hg _ (xZ h);rw[(vt f).1 e] at b;exact b
def Ke{g:List Ty}{x:Tm}(h:eY g x .nat)(hg:iV g)(a:g.length+x.acO<=1000000):pN x g 1=0:=by
 unfold pN;rw[zp h hg a];exact ea (λh=>h.2 rfl)
def rY(f:Fm)(o:f.ok=true):∀g,iV g->f.vW g=0->jV g f:=by
 refine Fm.pA (p:=λf=>∀g,iV g->f.vW g=0->jV g f) ?_ ?_ ?_ f o
 ·intro a b j n g hg h;rw[Fm.uq] at h
  by_cases c:pN a g 1=0
  ·by_cases e:pN b g 1=0
   ·exact .eq (Ma j hg c) (Ma n hg e)
   ·simp[fO,c,e] at h
  ·simp[fO,c] at h
 ·intro k a b i j n d l g hg h
  have m:k7 k=false:=by rcases i with rfl|rfl<;>rfl
  rw[Fm.uq,m] at h;simp only[aaf,fO,wk,if_true,tQ,QL] at h
  by_cases c:a.vW g=0
  ·rw[ee c] at h
   by_cases e:b.vW g=0
   ·exact .two i (d g hg c) (l g hg e)
   ·rw[ea e] at h;exact absurd h e
  ·rw[ea c] at h;exact absurd h c
 ·intro k s a i hs j d g hg h
  have m:k7 k=true:=by rcases i with rfl|rfl|rfl|rfl<;>rfl
  rw[Fm.uq,m] at h;simp only[aaf,fO,wk,if_true] at h
  by_cases c:a.vW (g++[s])=0
  ·exact .q i hs (d _ (hg.app hs) c)
  ·rw[ea c] at h;exact absurd h c
def uR{g:List Ty}{f:Fm}(h:jV g f):iV g->g.length+f.acO<=1000000->f.vW g=0:=by
 induction h with
 |eq l m=>
  intro hg c;rw[Fm.ef] at c;simp only[ez] at c;rw[Fm.uq];simp[fO,Ke l hg (by omega),Ke m hg (by omega)]
 |two d _ _ e i=>
  intro hg c;rw[Fm.ef] at c;simp only[ez] at c;rename_i k a b _ _
  have j:k7 k=false:=by rcases d with rfl|rfl<;>rfl
  rw[Fm.uq,j];simp[fO,e hg (by omega),i hg (by omega)]
 |q d hs _ n=>
  intro hg c;rw[Fm.ef] at c;simp only[ez] at c;rename_i k s a _
  have j:k7 k=true:=by rcases d with rfl|rfl|rfl|rfl<;>rfl
  rw[Fm.uq,j];simp[fO,n (hg.app hs) (by simp;omega)]
def jV.up{g:List Ty}{f:Fm}(h:jV g f):∀g1 g2 e:List Ty,g=g1++g2->jV (g1++e++g2) (f.up g2.length e.length):=by
 induction h with
 |eq l m=>
  intro g1 g2 e hg;rw[Fm.kl];exact .eq (l.up g1 g2 e hg) (m.up g1 g2 e hg)
 |two c _ _ d i=>
  intro g1 g2 e hg;rename_i k a b _ _
  have j:qB k=0:=by rcases c with rfl|rfl<;>rfl
  rw[Fm.kl,j,wq];exact .two c (d g1 g2 e hg) (i g1 g2 e hg)
 |q c hs _ n=>
  intro g1 g2 e hg;rename_i k s a _
  have j:qB k=1:=by rcases c with rfl|rfl|rfl|rfl<;>rfl
  subst hg;have:=n g1 (g2++[s]) e (by rw[qW]);rw[Fm.kl,j];rw[sK,<-qW] at this;exact .q c hs this
def jV.lift{g:List Ty}{f:Fm}(h:jV g f)(e:List Ty):jV (g++e) (f.up 0 e.length):=by
 have:=h.up g [] e (by simp);simpa using this
theorem jV.jF{g:List Ty}{f:Fm}(h:jV g f):∀(g1:List Ty) (s:Ty) (g2:List Ty) (a:Tm),g=g1++[s]++g2->eY g1 a s->jV (g1++g2) (Fm.jF g2.length f a):=by
 induction h with
 |eq j l=>
  intro g1 s g2 a hg b;rw[Fm.kV];exact .eq (j.jF g1 s g2 a hg b) (l.jF g1 s g2 a hg b)
 |two c _ _ d e=>
  intro g1 s g2 a hg b;rename_i k x y _ _
  have i:qB k=0:=by rcases c with rfl|rfl<;>rfl
  rw[Fm.kV,i,wq];exact .two c (d g1 s g2 a hg b) (e g1 s g2 a hg b)
 |q c hs _ m=>
  intro g1 s g2 a hg b;rename_i k n x _
  have i:qB k=1:=by rcases c with rfl|rfl|rfl|rfl<;>rfl
  subst hg;have:=m g1 s (g2++[n]) a (by simp) b;rw[Fm.kV,i];rw[sK,<-qW] at this;exact .q c hs this
theorem jV.put{g:List Ty}{s:Ty}{f:Fm}(h:jV (g++[s]) f){a:Tm}(b:eY g a s):jV g (Fm.jF 0 f a):=by
 have:=h.jF g s [] a (by simp) b;simpa using this
def eY.front{g:List Ty}{x:Tm}{t:Ty}(h:eY g x t)(e:List Ty):eY (e++g) x t:=by
 induction h with
 |@var g t i c j=>
  refine .var i (by simp;omega) ?_;rw[uo (by simp;omega),<-j]
  congr 1
  simp;omega
 |lam c _ d=>exact .lam c (by rw[qW];exact d)|app _ _ a b=>exact .app a b|zero=>exact .zero|succ _ d=>exact .succ d|tW c _ _ _ a b f=>exact .tW c a b f|nil=>exact .nil|cons _ _ a b=>exact .cons a b|fold c _ _ _ a b f=>exact .fold c a b f|pair c _ _ a b=>exact .pair c a b|fst _ d=>exact .fst d|snd _ d=>exact .snd d|unit=>exact .unit
def jV.front{g:List Ty}{f:Fm}(h:jV g f)(e:List Ty):jV (e++g) f:=by
 induction h with
 |eq d i=>exact .eq (d.front e) (i.front e)|two a _ _ b c=>exact .two a b c|q a hs _ j=>exact .q a hs (by rw[qW];exact j)
structure Hg (g:List Ty) (f:Fm):Prop where
 err:f.err=0
 ty:jV g f
def Hg.acO{g:List Ty}{f:Fm}(h:Hg g f):f.acO<=4096:=(Fm.hZ h.err).2
def Hg.ok{g:List Ty}{f:Fm}(h:Hg g f):f.ok=true:=(Fm.hZ h.err).1
def Hg.acS{g:List Ty}{f:Fm}(h:Hg g f)(hg:g.length<=16){m:Int}(hm:5000<=m):f.acS m=true:=h.ty.acS m (by have:=h.acO;omega)
def Hg.hy{g:List Ty}{f:Fm}(h:Hg g f)(hg:g.length<=16):Hy f:=⟨h.err,h.acS hg (by omega)⟩
def Hg.up{g:List Ty}{f:Fm}(h:Hg g f)(l:List Ty):Hg (g++l) (f.up 0 l.length):=by
 have hn:=Fm.q9 f 0 l.length;obtain⟨a,b⟩:=Fm.hZ h.err;refine⟨?_,h.ty.lift l⟩;unfold Fm.err;rw[Fm.Jy f 0 l.length (by omega) (by omega),a,ee rfl,hn,ea (by omega)]
structure PG (L:List Fm) (p:eg) (c:ei):Prop where
 pl:UY p c
 JF:c.lemmas=L
 XS:∀f∈L,Hg [] f
 acT:∀f∈c.acT,Hg c.acQ f
def PG.Te{L:List Fm}{p:eg}{c:ei}(h:PG L p c){l:List Ty}(j:iV l)(hn:c.acQ.length+l.length<=16):∃d a,fZ p l=some d/\fJ c l=some a/\PG L d a/\a.acQ=c.acQ++l/\a.acT=c.acT.map (Fm.up 0 l.length):=by
 obtain⟨d,a,k,m,n,o,g,i⟩:=h.pl.below j hn (λf b=>⟨(h.acT f b).err,(h.acT f b).acS h.pl.nv (by omega)⟩);refine⟨d,a,k,m,⟨n,o.trans h.JF,h.XS,λf b=>?_⟩,g,i⟩;rw[i] at b;obtain⟨f0,e,rfl⟩:=oi.1 b;rw[g];exact(h.acT f0 e).up l
def PG.below{L:List Fm}{p:eg}{c:ei}(h:PG L p c){s:Ty}(hs:s.err=0)(hn:c.acQ.length+1<=16):∃b a,fZ p [s]=some b/\fJ c [s]=some a/\PG L b a/\a.acQ=c.acQ++[s]/\a.acT=c.acT.map (Fm.up 0 1):=
 h.Te (l:=[s]) (λx d=>by rw[we.1 d];exact hs) hn
def PG.with{L:List Fm}{p:eg}{c:ei}(h:PG L p c){f:Fm}(d:Hg c.acQ f)(hn:c.acT.length+1<=16):∃b a,gi p f=some b/\gE c f=some a/\PG L b a/\a.acQ=c.acQ/\a.acT=c.acT++[f]:=by
 obtain⟨b,a,i,j,k,l,e,g⟩:=h.pl.with (d.hy h.pl.nv) hn;refine⟨b,a,i,j,⟨k,l.trans h.JF,h.XS,λx hx=>?_⟩,e,g⟩;rw[g] at hx;rw[e];rcases tj.1 hx with hx|hx
 ·exact h.acT x hx
 ·rw[we.1 hx];exact d
def PG.room{L:List Fm}{p:eg}{c:ei}(h:PG L p c){v k:Nat}(e:v<=100)(f:k<=100):(eV p.gj v k=some 0/\eT c v k=some 0/\c.acQ.length+v<=16/\c.acT.length+k<=16)\/(eV p.gj v k=some 3/\eT c v k=some 3/\(16<c.acQ.length+v\/16<c.acT.length+k)):=by
 unfold eV eT;have b:=h.pl.vars;have d:=h.pl.acT;have g:=h.pl.nv;have i:=h.pl.nh;rw[b,d,fV,fV,fu (by omega) (by omega),fu (by omega) (by omega),mm]
 by_cases a:(pc ((c.acQ.length:Int)+v) 16||pc ((c.acT.length:Int)+k) 16)=true
 ·rw[ee a];simp only[p9,gW] at a;exact .inr ⟨rfl,rfl,by omega⟩
 ·rw[ea a];simp only[p9,gW,not_or] at a;exact .inl ⟨rfl,rfl,by omega,by omega⟩
def ES.len{N:Int}:∀{l:List Int} {lo:Int},ES l->(∀x∈l,lo<=x/\x<N)->(l.length:Int)<=max 0 (N-lo)
 |[],lo,_,_=>by simp;omega|a::l,lo,.cons c d,h=>by
  have e:=h a (by simp);have f:=ES.len (lo:=a+1) d (λx b=>⟨by have:=c x b;omega,(h x (by simp[b])).2⟩);simp only[l5];omega
def Us.len{l:List Int}{m:Nat}(h:Us l m):l.length<=32:=by
 have:=ES.len (N:=32) (lo:=0) h.YG (λx a=>⟨h.pos x a,h.bound x a⟩);omega
def eY.NQ{g:List Ty}{x:Tm}{t:Ty}(h:eY g x t):∀j:Int,(g.length:Int)<=j->x.acU j=0:=by
 induction h with
 |@var g t i k l=>
  intro j a;rw[Tm.gG,ea (λh=>by have:=h.2;omega)];rfl
 |@lam g s b t k _ e=>
  intro j a;rw[Tm.gG,ea (λh=>by cases h.1)];simp only[ez];rw[e (j+gk 2) (by show _<=j+1;simp;omega)]
 |app _ _ c d=>intro j a;rw[Tm.gG,ea (λh=>by cases h.1)];simp only[ez,show gk 3=0 from rfl,wq,c j a,d j a]
 |zero=>intro j a;rw[Tm.gG,ea (λh=>by cases h.1)];rfl
 |succ _ e=>intro j a;rw[Tm.gG,ea (λh=>by cases h.1)];simp only[ez,show gk 5=0 from rfl,wq,e j a]
 |tW k _ _ _ c d f=>intro j a;rw[Tm.gG,ea (λh=>by cases h.1)];simp only[ez,show gk 6=0 from rfl,wq,c j a,d j a,f j a]
 |nil=>intro j a;rw[Tm.gG,ea (λh=>by cases h.1)];rfl
 |cons _ _ c d=>intro j a;rw[Tm.gG,ea (λh=>by cases h.1)];simp only[ez,show gk 8=0 from rfl,wq,c j a,d j a]
 |fold k _ _ _ c d f=>intro j a;rw[Tm.gG,ea (λh=>by cases h.1)];simp only[ez,show gk 9=0 from rfl,wq,c j a,d j a,f j a]
 |pair k _ _ c d=>intro j a;rw[Tm.gG,ea (λh=>by cases h.1)];simp only[ez,show gk 10=0 from rfl,wq,c j a,d j a]
 |fst _ e=>intro j a;rw[Tm.gG,ea (λh=>by cases h.1)];simp only[ez,show gk 11=0 from rfl,wq,e j a]
 |snd _ e=>intro j a;rw[Tm.gG,ea (λh=>by cases h.1)];simp only[ez,show gk 12=0 from rfl,wq,e j a]
 |unit=>intro j a;rw[Tm.gG,ea (λh=>by cases h.1)];rfl
def hW:Fm:=.mk 0 (.mk 0 []) [] []
def Km(k:Option (ec×Int)):Option (ec×Int):=
 ej k λa b=>
 if(eW b 0)=true then(
 some ((ec.mk (Fm.mk 0 (Ty.mk 0 []) [] []) 0),b))
 else(cv (kN a.eh) λd=>
 if(eW d 0)=true then(
 some ((ec.mk (Fm.mk 0 (Ty.mk 0 []) [] []) 0),4))
 else(eL (λ(v30:Int)=>
 some ((ec.mk a.eh v30),0)) λc=>
 ej (pF a.eh) λe f=>
 if e=true then(
 c a.gP)
 else(c 0)))
def Lc(r:Option (Fm×List Int×Int)):Option (sX×Int):=
 iL r λb g f=>
 if(eW f 0)=true then(
 some ((sX.mk (Fm.mk 0 (Ty.mk 0 []) [] []) []),f))
 else(cv (lk b) λc=>
 if(eW c 0)=true then(
 some ((sX.mk (Fm.mk 0 (Ty.mk 0 []) [] []) []),4))
 else(eL (λ(d:List Int)=>
 some ((sX.mk b d),0)) λa=>
 ej (pH b) λe h=>
 if e=true then(
 a g)
 else(a [])))
def Dc{α:Type}{F:Int->α->Unit->Option (gw Unit Bool)}(w:α->Nat):∀(l:List α) (i:Nat),(∀j x,x∈l->F j x ()=if 0<w x then some (.ret true)else some (.next ()))->fo F l i ()=some (if 0<ez w l then .inr true else .inl ())
 |[],i,_=>rfl|x::l,i,h=>by
  have c:=Dc w l (i+1) (λj y hy=>h j y (by simp[hy]));rw[fl,h i x (by simp)]
  by_cases a:0<w x
  ·rw[ee a,ee (show 0<ez w (x::l) by simp only[ez];omega)];rfl
  ·rw[ea a];show fo F l (i+1) ()=_;rw[c]
   by_cases b:0<ez w l
   ·rw[ee b,ee (show 0<ez w (x::l) by simp only[ez];omega)]
   ·rw[ea b,ea (show¬0<ez w (x::l) by simp only[ez];omega)]
def J7:∀(n:Nat) (t:Tm) (a:Int),t.acO<=n->t.acO<=1000000000->0<=a->a+t.acO<=10000000000->tA n t a=some (decide (0<t.acU a)):=by
 intro n
 induction n with
 |zero=>intro t a h;have:=t.eP;omega
 |succ n f=>
  intro t a h d o e;cases t with
  |mk k i s l=>
   rw[Tm.ef] at h d e;have p:=Tm.fK l;have q:=lI k;rw[tA,Tm.gG];simp only[Tm.eF,Tm.gl,Tm.eM,eA,rv,gO,gA]
   by_cases c:k=1/\i=a
   ·rw[ee c,ee c]
    congr 1
    exact(wh (by omega)).symm
   ·rw[ea c,ea c,eC (by omega),eo,Dc (Tm.acU (a+gk k)) l 0 (λj x g=>by
     have m:=eJ Tm.acO g;rw[oA,cl,Tm.eM,fu (by omega) (by omega),f x (a+gk k) (by omega) (by omega) (by omega) (by omega),cl]
     by_cases b:0<x.acU (a+gk k)
     ·rw[ee b,ee (wh b)]
     ·rw[ea b,ea (by simpa using b)]),cl,vl]
    by_cases b:0<ez (Tm.acU (a+gk k)) l
    ·rw[ee b,qs,wh b]
    ·rw[ea b,en,DA b]
def Cv:∀(n:Nat) (t:Fm) (a:Int),t.acO<=n->t.acO<=1000000000->0<=a->a+t.acO<=10000000000->pG n t a=some (decide (0<t.acU a)):=by
 intro n
 induction n with
 |zero=>intro t a h;have:=t.eP;omega
 |succ n i=>
  intro t a h c o d;cases t with
  |mk k s ts l=>
   rw[Fm.ef] at h c d;have p:=Fm.fK l;have m:=Tm.fK ts;have q:=Ch k;rw[pG,Fm.gG];simp only[Fm.eF,Fm.hY,eA]
   rw[eC (by omega),eo,Dc (Tm.acU a) ts 0 (λj x e=>by
    have f:=eJ Tm.acO e;rw[J7 FU x a (by rw[fC];omega) (by omega) (by omega) (by omega),cl]
    by_cases b:0<x.acU a
    ·rw[ee b,ee (wh b)]
    ·rw[ea b,ea (by simpa using b)]),cl]
   by_cases g:0<ez (Tm.acU a) ts
   ·rw[ee g,qs,wh (by omega)]
   ·rw[ea g,en,eC (by omega),eo,Dc (Fm.acU (a+qB k)) l 0 (λj x e=>by
     have f:=eJ Fm.acO e;rw[qm,cl,Fm.eM,fu (by omega) (by omega),i x (a+qB k) (by omega) (by omega) (by omega) (by omega),cl]
     by_cases b:0<x.acU (a+qB k)
     ·rw[ee b,ee (wh b)]
     ·rw[ea b,ea (by simpa using b)]),cl]
    by_cases b:0<ez (Fm.acU (a+qB k)) l
    ·rw[ee b,qs,wh (by omega)]
    ·rw[ea b,en,DA (by omega)]
def Tm.Cr(s:Tm):∀(t:Tm) (n:Int),t.ok=true->t.acU n=0->Tm.jF n t s=t.up (n+1) (-1):=by
 intro t
 induction t using Tm.ind with
 |h k i ty l g=>
  intro n d e;have hi:=Tm.lB d;rw[Tm.gG] at e;rw[Tm.kV,Tm.kl]
  by_cases a:k=1
  ·subst a;obtain⟨rfl,rfl⟩:=Tm.S3 d
   have b:i≠n:=λh=>by rw[ee ⟨rfl,h⟩] at e;omega
   rw[ee rfl];unfold Tm.rG;rw[ea b]
   by_cases f:n<i
   ·rw[ee f,ee ⟨rfl,by omega⟩];rfl
   ·rw[ea f,ea (λh=>by omega)];rfl
  ·rw[ea a,ea (λh=>a h.1)]
   congr 1
   refine uQ λx c=>?_;have:=eJ (Tm.acU (n+gk k)) c;rw[g x c (n+gk k) (hi.2.2.2.1 x c) (by omega),show n+gk k+1=n+1+gk k by omega]
def Fm.Cr(s:Tm):∀(t:Fm) (n:Int),t.ok=true->t.acU n=0->Fm.jF n t s=t.up (n+1) (-1):=by
 intro t
 induction t using Fm.ind with
 |h k ty ts l b=>
  intro n c d;obtain⟨_,e,f⟩:=Fm.rf c;rw[Fm.gG] at d;rw[Fm.kV,Fm.kl]
  congr 1
  ·refine uQ λx a=>?_;have:=eJ (Tm.acU n) a;exact Tm.Cr s x n (e x a) (by omega)
  ·refine uQ λx a=>?_;have:=eJ (Fm.acU (n+qB k)) a;rw[b x a (n+qB k) (f x a) (by omega),show n+qB k+1=n+1+qB k by omega]
def Kz:∀(n:Nat) (t:Tm) (f:Int),t.acO<=n->t.acO<=1000000000->0<=f->f+t.acO<=10000000000->t.acS 1000000000000=true->qj n t f (-1)=some (t.up f (-1)):=by
 intro n
 induction n with
 |zero=>intro t f h;have:=t.eP;omega
 |succ n o=>
  intro t f h a u b hi;cases t with
  |mk k i s l=>
   rw[Tm.ef] at h a b;rw[Tm.fX] at hi;simp only[gO,nA,ll] at hi;have w:=Tm.fK l;have y:=lI k;rw[qj];simp only[Tm.eF,Tm.gl,Tm.eM,Tm.ft,eA,eC (l:=l) (by omega),eo];rw[jq (Tm.up (f+gk k) (-1)) l 0 [] (by simp;omega)]
   ·rw[Tm.kl];simp only[cl,en,pk,tC,Tm.mk.injEq,and_true,ZZ]
    by_cases c:k=1/\f<=i
    ·obtain⟨rfl,d⟩:=c;rw[fu (by omega) (by omega)];have p:eH 1 1=true:=rfl
     have q:ue i f=true:=by simp[d]
     simp[p,q,d]
    ·rw[ea c]
     have e:fW (eH k 1) (ue i f) false=false:=by
      rw[rv,RH];simp only[ne_eq,gO,gA,iX];exact c
     rw[e];rfl
   ·intro j x v g r;have:=eJ Tm.acO g;rw[oA];simp only[cl,Tm.eM];rw[fu (by omega) (by omega),o x (f+gk k) (by omega) (by omega) (by omega) (by omega) (hi.2 x g)];simp[fA (l:=v) (m:=[x.up (f+gk k) (-1)]) (by simpa using r)]
def CS:∀(n:Nat) (t:Fm) (f:Int),t.acO<=n->t.acO<=1000000000->0<=f->f+t.acO<=10000000000->t.acS 1000000000000=true->hI n t f (-1)=some (t.up f (-1)):=by
 intro n
 induction n with
 |zero=>intro t f h;have:=t.eP;omega
 |succ n e=>
  intro t f h b g c hi;cases t with
  |mk k s ts l=>
   rw[Fm.ef] at h b c;rw[Fm.fX] at hi;simp only[gO,ll] at hi;have o:=Fm.fK l;have i:=Tm.fK ts;have p:=Ch k;rw[hI];simp only[Fm.eF,Fm.hY,Fm.eM,Fm.ft,eA,eC (l:=l) (by omega),eC (l:=ts) (by omega),eo];rw[jq (Tm.up f (-1)) ts 0 [] (by simp;omega)]
   ·simp only[cl,en];rw[jq (Fm.up (f+qB k) (-1)) l 0 [] (by simp;omega)]
    ·simp[Fm.kl]
    ·intro j x v a d;have:=eJ Fm.acO a;rw[qm];simp only[cl,Fm.eM];rw[fu (by omega) (by omega),e x (f+qB k) (by omega) (by omega) (by omega) (by omega) (hi.2 x a)];simp[fA (l:=v) (m:=[x.up (f+qB k) (-1)]) (by simpa using d)]
   ·intro j x v a d;have:=eJ Tm.acO a;rw[Kz FU x f (by rw[fC];omega) (by omega) g (by omega) (hi.1 x a)];simp[fA (l:=v) (m:=[x.up f (-1)]) (by simpa using d)]
def Qs:Gp Tm.z:=by
 show Gp (Tm.mk 0 0 (Ty.mk 0 []) []);intro c b d;have a:FU=999999999+1:=fC;unfold rP oW;rw[a,ib,ea (show¬(eH (Tm.mk 0 0 (Ty.mk 0 []) []).acM 1=true) by decide)];simp only[Tm.eM,Tm.ft,Tm.eF,Tm.gl,eA];rw[pJ (by decide),cl,eC (by decide),eo];rfl
def tV{f:Fm}(a:f.ok=true)(hn:f.acO<=50000000)(b:f.acS 1000000000000=true)(c:f.acU 0=0):lj f 0 (Tm.mk 0 0 (Ty.mk 0 []) [])=some (f.up 1 (-1)):=by
 rw[show Tm.mk 0 0 (Ty.mk 0 []) []=Tm.z from rfl,vB a hn b Qs (by omega) (by omega),Fm.Cr _ f 0 a c];rfl
noncomputable def yX (x:Tm) (e:Int):Tm×Int:=if e=0 then((x.norm 1000 0).1,(x.norm 1000 0).2.2)else(x,e)
def qH{α:Type}(f:α->Int->α×Int):List α->Int->List α×Int
 |[],e=>([],e)|x::l,e=>((f x e).1::(qH f l (f x e).2).1,(qH f l (f x e).2).2)
mutual
noncomputable def Fm.ua:Fm->Int->Fm×Int
 |.mk k s ts l,e=>(.mk k s (qH yX ts e).1 (Fm.Og l (qH yX ts e).2).1,(Fm.Og l (qH yX ts e).2).2)
noncomputable def Fm.Og:List Fm->Int->List Fm×Int
 |[],e=>([],e)|f::l,e=>((f.ua e).1::(Fm.Og l (f.ua e).2).1,(Fm.Og l (f.ua e).2).2)
end
def Fm.Pt:∀(l:List Fm) (e:Int),Fm.Og l e=qH Fm.ua l e
 |[],e=>by rw[Fm.Og,qH]|f::l,e=>by rw[Fm.Og,qH,Fm.Pt l]
def Fm.Ea(k:Int)(s:Ty)(ts:List Tm)(l:List Fm)(e:Int):(Fm.mk k s ts l).ua e=(.mk k s (qH yX ts e).1 (qH Fm.ua l (qH yX ts e).2).1,(qH Fm.ua l (qH yX ts e).2).2):=by rw[Fm.ua,Fm.Pt]
def u_{α:Type}{f:α->Int->α×Int}:∀(l:List α) (e:Int),(∀x∈l,∀e,e≠0->(f x e).2=e)->e≠0->(qH f l e).2=e
 |[],e,_,_=>rfl|x::l,e,h,he=>by
  have a:=h x (by simp) e he;simp only[qH];rw[a];exact u_ l e (λy hy=>h y (by simp[hy])) he
def C8{x:Tm}{e:Int}(he:e≠0):(yX x e).2=e:=by unfold yX;rw[ea he]
def Fm.Gm(f:Fm):∀e:Int,e≠0->(f.ua e).2=e:=by
 induction f using Fm.ind with
 |h k s ts l a=>
  intro e he;rw[Fm.Ea];have b:=u_ (f:=yX) ts e (λx _ e he=>C8 he) he;simp only[];rw[b];exact u_ l e a he
def Dz{α ρ:Type}{E:α->Int->Option (α×Int)}{f:α->Int->α×Int}:∀(l:List α) (j:Nat) (v:List α) (e:Int),(∀x∈l,∀e,E x e=some (f x e))->v.length+l.length<=1000000000->fo (λ(k:Int) (c:α)=>(uD λ(v91:List α) (d:Int)=>
   ej (E c d) λa b=>
   hO (gy v91 [a])<|some ((.next ((gU v91 [a]),b)):gw ((List α)×Int) ρ))) l j (v,e)=some (.inl (v++(qH f l e).1,(qH f l e).2))
 |[],j,v,e,_,_=>by simp[qH]|x::l,j,v,e,h,m=>by
  simp only[l5] at m;rw[fl];simp only[uD];rw[h x (by simp) e];obtain⟨y,g,i⟩:∃y g,f x e=(y,g):=⟨_,_,rfl⟩;rw[i];rw[eb,fA (by simp;omega),eo];simp only[cl,fv];rw[g_];have:=Dz (ρ:=ρ) l (j+1) (v++[y]) g (λz n=>h z (by simp[n])) (by simp;omega);rw[this];simp only[qH,i];simp
structure Nm (x:Tm):Prop where
 err:x.err=0
 acS:x.acS 536870912=true
def Nm.both{x:Tm}(h:Nm x):kM x 1000=some (x.norm 1000 0)/\mE x 1000=some (x.norm 1000 0):=by
 obtain⟨b,hn⟩:=tr h.err;have hw:=x.jC b;have a:=xy (t:=x) (by omega) 1000;rw[ee h.err,ee ⟨by omega,by omega,h.acS⟩] at a;obtain⟨p,m,e,c,d,_⟩:=zY (t:=x) (by omega) 1000;have a:kM x 1000=some (x.norm 1000 0):=a;refine⟨a,?_⟩;rw[d,<-c,a]
def AJ{x:Tm}(h:Nm x)(b e:Int):kx x b e=some (yX x e):=by
 unfold kx yX
 by_cases he:e=0
 ·rw[ee he,ea (by rw[ew];simpa using he),h.both.1];rfl
 ·rw[ea he,ee (by rw[ew];exact he)]
inductive Qg:Fm->Prop
 |mk {k s ts l}:(∀x∈ts,Nm x)->(∀f∈l,Qg f)->Qg (.mk k s ts l)
def Qg.of(f:Fm):f.acO<=4096->f.ok=true->f.acS 536870912=true->Qg f:=by
 induction f using Fm.ind with
 |h k s ts l d=>
  intro hn e b;obtain⟨_,g,i⟩:=Fm.rf e;rw[Fm.ef] at hn;rw[Fm.fX,gO,ll,ll] at b;refine .mk (λx c=>⟨?_,b.1 x c⟩) (λf a=>?_)
  ·have:=eJ Tm.acO c;unfold Tm.err;rw[ee (g x c),ea (by omega)]
  ·have:=eJ Fm.acO a;exact d f a (by omega) (i f a) (b.2 f a)
def Mz:∀(n:Nat) (f:Fm) (b e:Int),f.acO<=n->f.acO<=1000000->f.ok=true->Qg f->fq n f b (λ(s:Int) (c:Tm) (d:Int)=>kx c d s) e=some (f.ua e):=by
 intro n
 induction n with
 |zero=>intro f b e h;have:=f.eP;omega
 |succ n m=>
  intro f b e hn o p hm;cases f with
  |mk k s ts l=>
   cases hm with
   |mk q r=>
    rw[Fm.ef] at hn o;have u:=iA Tm.acO ts λt _=>t.eP;have v:=iA Fm.acO l λt _=>t.eP;obtain⟨w,z,g⟩:=Fm.rf p;rw[fq,Fm.Ea];simp only[Fm.ft,Fm.eF,Fm.eM,Fm.hY,eA];rw[pJ (by omega),cl,eC (by omega),eo];rw[Dz (E:=λy s=>kx y b s) (f:=yX) ts 0 [] e (λx a e=>AJ (q x a) b e) (by simp;omega),cl];simp only[en,uD,pk];rw[oS,cl]
    have loop:=λi=>Dz (ρ:=Fm×Int) (E:=λy s=>fq n y i (λ(s:Int) (c:Tm) (d:Int)=>kx c d s) s) (f:=Fm.ua) l 0 [] (qH yX ts e).2 (λx a e=>by
     have:=eJ Fm.acO a
     exact m x i e (by omega) (by omega) (g x a) (r x a)) (by simp;omega)
    by_cases j:k7 k=true
    ·rw[ee j,eC (by omega),eo,loop,cl];simp
    ·rw[ea j,eC (by omega),eo,loop,cl];simp
def FB:∀(n:Nat) (f:Fm),f.acO<=n->f.acO<=1000000->Qg f->mI n f=some (if(f.ua 0).2=0 then((f.ua 0).1,0)else(hW,(f.ua 0).2)):=by
 intro n
 induction n with
 |zero=>intro f h;have:=f.eP;omega
 |succ n H=>
  intro f hn I hm;cases f with
  |mk k s ts l=>
   cases hm with
   |mk J K=>
    rw[Fm.ef] at hn I;have L:=iA Tm.acO ts λt _=>t.eP;have M:=iA Fm.acO l λt _=>t.eP;rw[mI,Fm.Ea];simp only[Fm.ft,Fm.eF,Fm.eM,Fm.hY,eA];rw[eC (by omega),eo]
    have p:∀(us:List Tm) (j:Nat) (v:List Tm),(∀t∈us,Nm t)->v.length+us.length<=1000000000->fo (λ(N:Int) (B:Tm)=>(λ(w:List Tm)=>
       iL (mE B 1000) λc E d=>
       if(eW d 0)=true then(
       some (.ret ((Fm.mk 0 (Ty.mk 0 []) [] []),d)))
       else(hO (gy w [c])<|some ((.next (gU w [c])):gw (List Tm) (Fm×Int))))) us j v=some (if(qH yX us 0).2=0 then .inl (v++(qH yX us 0).1)else .inr (hW,(qH yX us 0).2)):=by
     intro us
     induction us with
     |nil=>intro j v _ _;simp[qH]|cons t us q=>
      intro j v hm C;simp only[l5] at C;rw[fl,(hm t (by simp)).both.2]
      have D:yX t 0=((t.norm 1000 0).1,(t.norm 1000 0).2.2):=by unfold yX;rw[ee rfl]
      obtain⟨y,m,a,z⟩:∃y m a,t.norm 1000 0=(y,m,a):=⟨_,_,_,rfl⟩;rw[z] at D|-;rw[ow]
      by_cases he:a=0
      ·subst he;rw[ea (by decide),fA (by simp;omega),eo];simp only[cl,fv];rw[g_,q (j+1) (v++[y]) (λu hu=>hm u (by simp[hu])) (by simp;omega)];simp only[qH,D];simp
      ·rw[ee (by rw[ew];exact he)];simp only[qH,D];rw[u_ (f:=yX) us a (λx _ e he=>C8 he) he,ea he];rfl
    have r:∀(us:List Fm) (j:Nat) (v:List Fm),(∀t∈us,Qg t/\t.acO<=n/\t.acO<=1000000)->v.length+us.length<=1000000000->fo (λ(F:Int) (A:Fm)=>(λ(g:List Fm)=>
       ej (mI n A) λi o=>
       if(eW o 0)=true then(
       some (.ret ((Fm.mk 0 (Ty.mk 0 []) [] []),o)))
       else(hO (gy g [i])<|some ((.next (gU g [i])):gw (List Fm) (Fm×Int))))) us j v=some (if(qH Fm.ua us 0).2=0 then .inl (v++(qH Fm.ua us 0).1)else .inr (hW,(qH Fm.ua us 0).2)):=by
     intro us
     induction us with
     |nil=>intro j v _ _;simp[qH]|cons t us q=>
      intro j v hm C;simp only[l5] at C;obtain⟨a1,a2,a3⟩:=hm t (by simp);rw[fl,H t a2 a3 a1];obtain⟨y,a,z⟩:∃y a,t.ua 0=(y,a):=⟨_,_,rfl⟩;rw[z]
      by_cases he:a=0
      ·subst he;simp only[if_true];rw[eb,ea (by decide),fA (by simp;omega),eo];simp only[cl,fv];rw[g_,q (j+1) (v++[y]) (λu hu=>hm u (by simp[hu])) (by simp;omega)];simp only[qH,z];simp
      ·simp only[ea he];rw[eb,ee (by rw[ew];exact he)];simp only[qH,z];rw[u_ (f:=Fm.ua) us a (λx _ e he=>Fm.Gm x e he) he,ea he];rfl
    rw[p ts 0 [] J (by simp;omega),cl]
    by_cases he:(qH yX ts 0).2=0
    ·rw[ee he,en,eC (by omega),eo,r l 0 [] (λt G=>by
      have:=eJ Fm.acO G
      exact⟨K t G,by omega,by omega⟩) (by simp;omega),cl,he]
     by_cases b:(qH Fm.ua l 0).2=0
     ·rw[ee b,ee b,en,pk,pk]
     ·rw[ea b,ea b,qs]
    ·rw[ea he,qs,u_ (f:=Fm.ua) l _ (λx _ e he=>Fm.Gm x e he) he,ea he]
def Ty.aaM:∀(n:Nat) (s:Ty),s.acO<=n->s.err=0->∃a,eY [] a s:=by
 intro n
 induction n with
 |zero=>intro s h;have:=s.eP;omega
 |succ n c=>
  intro s hn he;rcases Ty.rF he with rfl|rfl|rfl|⟨a,b,rfl,e,d⟩|⟨a,b,rfl,e,d⟩
  ·exact⟨_,.zero⟩
  ·exact⟨_,.nil⟩
  ·exact⟨_,.unit⟩
  ·rw[Ty.vG] at hn;obtain⟨x,f⟩:=c a (by omega) e;obtain⟨y,hy⟩:=c b (by omega) d;exact⟨_,.pair he f hy⟩
  ·rw[Ty.ke] at hn;obtain⟨y,hy⟩:=c b (by omega) d;exact⟨_,.lam he (by have:=hy.front [a];simpa using this)⟩
def jV.down{g:List Ty}{s:Ty}{f:Fm}(h:jV (g++[s]) f)(hs:s.err=0)(c:f.acU 0=0):jV g (f.up 1 (-1)):=by
 obtain⟨a,d⟩:=Ty.aaM _ s (jw _) hs
 have b:eY g a s:=by simpa using d.front g
 have:=h.put b
 rwa [Fm.Cr a f 0 h.ok c] at this
def eY.nm{g:List Ty}{x:Tm}{t:Ty}(h:eY g x t)(hg:g.length<=1000000)(a:x.acO<=4096):Nm x:=by
 refine⟨?_,h.acS _ (by omega)⟩;unfold Tm.err;rw[ee h.ok,ea (by omega)]
def TQ{g:List Ty}{x:Tm}{t:Ty}(h:eY g x t)(hg:g.length<=1000000)(b:x.acO<=4096){e:Int}(he:(yX x e).2=0):e=0/\eY g (yX x e).1 t/\(yX x e).1.acO<=4096:=by
 by_cases c:e=0
 ·subst c;unfold yX at he|-;simp only[if_true] at he|-;obtain⟨a,n,f,d⟩:∃a n f,x.norm 1000 0=(a,n,f):=⟨_,_,_,rfl⟩;rw[d] at he|-;simp only[] at he|-;subst he;exact⟨trivial,eY.norm _ _ _ _ _ h d,(FZ 1000 536870912 0 x a n (by omega) (Sm.start (h.nm hg b).err (h.nm hg b).acS) b d).2⟩
 ·rw[C8 c] at he;exact absurd he c
def Lb(a b:Tm)(e:Int):(Fm.mk 1 .z [a,b] []).ua e=(.mk 1 .z [(yX a e).1,(yX b (yX a e).2).1] [],(yX b (yX a e).2).2):=by rw[Fm.Ea];rfl
def Py(k:Int)(a b:Fm)(e:Int):(Fm.mk k .z [] [a,b]).ua e=(.mk k .z [] [(a.ua e).1,(b.ua (a.ua e).2).1],(b.ua (a.ua e).2).2):=by rw[Fm.Ea];rfl
def Wl(k:Int)(s:Ty)(a:Fm)(e:Int):(Fm.mk k s [] [a]).ua e=(.mk k s [] [(a.ua e).1],(a.ua e).2):=by rw[Fm.Ea];rfl
def OU{g:List Ty}{f:Fm}(h:jV g f):∀(e:Int),g.length+f.acO<=1000000->f.acO<=4096->(f.ua e).2=0->e=0/\jV g (f.ua e).1/\(f.ua e).1.acO<=3000*f.acO:=by
 induction h with
 |@eq g a b c n=>
  intro e hg hn he;rw[Lb] at he|-;rw[Fm.ef] at hn hg|-;simp only[ez] at hn hg|-;obtain⟨d,i,o⟩:=TQ n (by omega) (by omega) he;obtain⟨a1,a2,a3⟩:=TQ c (by omega) (by omega) d;refine⟨a1,.eq a2 i,?_⟩;rw[Fm.ef];simp only[ez];have:=a.eP;have:=b.eP;omega
 |@two g k a b j c n l m=>
  intro e hg hn he;rw[Py] at he|-;rw[Fm.ef] at hn hg|-;simp only[ez] at hn hg|-;obtain⟨d,i,o⟩:=m _ (by omega) (by omega) he;obtain⟨a1,a2,a3⟩:=l _ (by omega) (by omega) d;refine⟨a1,.two j a2 i,?_⟩;rw[Fm.ef];simp only[ez];omega
 |@q g k s a j hs c p=>
  intro e hg hn he;rw[Wl] at he|-;rw[Fm.ef] at hn hg|-;simp only[ez] at hn hg|-;obtain⟨a1,a2,a3⟩:=p _ (by simp;omega) (by omega) he;refine⟨a1,.q j hs a2,?_⟩;rw[Fm.ef];simp only[ez];omega
noncomputable def y0 (f:Fm):Fm×Int:=if f.acU 0=0 then(f.up 1 (-1),0)else if(f.ua 0).2≠0 then(hW,(f.ua 0).2)else if(f.ua 0).1.acU 0≠0 then(hW,6)else((f.ua 0).1.up 1 (-1),0)
def HT{g:List Ty}{s:Ty}{f:Fm}(h:Hg (g++[s]) f)(hg:g.length<=1000)(hs:s.err=0)(a:(y0 f).2=0):jV g (y0 f).1/\(y0 f).1.acO<=3000*4096:=by
 have hn:=h.acO;unfold y0 at a|-
 split
 ·rename_i c;refine⟨h.ty.down hs c,?_⟩;show(f.up 1 (-1)).acO<=_;rw[Fm.q9];omega
 ·rename_i c;rw[ea c] at a
  split
  ·rename_i b;rw[ee b] at a;exact absurd a b
  ·rename_i b;rw[ea b] at a
   split
   ·rename_i d;rw[ee d] at a;cases a
   ·rename_i d;obtain⟨_,a2,a3⟩:=OU h.ty 0 (by simp;omega) hn (vE.1 b);refine⟨a2.down hs (by omega),?_⟩;show((f.ua 0).1.up 1 (-1)).acO<=_;rw[Fm.q9];omega
def wN{g:List Ty}{s:Ty}{f:Fm}(h:Hg (g++[s]) f)(hg:g.length<=1000):mZ f=some (y0 f):=by
 have hn:=h.acO;have k:f.acS 1000000000000=true:=h.ty.acS _ (by simp;omega);unfold mZ y0;rw[qx h.ok (by omega) k (by omega) (by omega),cl]
 by_cases d:f.acU 0=0
 ·rw[ee d,ee (by rw[gA];omega),tV h.ok (by omega) k d];rfl
 ·rw[ea d,ea (by rw[gA];omega),Mz FU f 0 0 (by rw[fC];omega) (by omega) h.ok (Qg.of f hn h.ok (h.ty.acS _ (by simp;omega)))];obtain⟨a,e,i⟩:∃a e,f.ua 0=(a,e):=⟨_,_,rfl⟩;rw[i,eb];simp only[]
  by_cases he:e=0
  ·subst he;rw[ea (by decide),ea (by decide)];have b:=OU h.ty 0 (by simp;omega) hn (by rw[i]);rw[i] at b;obtain⟨_,a2,a3⟩:=b;have a2:jV (g++[s]) a:=a2;have a3:a.acO<=3000*f.acO:=a3;have c:a.acS 1000000000000=true:=a2.acS _ (by simp;omega);rw[qx a2.ok (by omega) c (by omega) (by omega),cl]
   by_cases j:a.acU 0=0
   ·rw[ea (by rw[gW];omega),ea (by simpa using j),tV a2.ok (by omega) c j];rfl
   ·rw[ee (by rw[gW];omega),ee j];rfl
  ·rw[ee (by rw[ew];exact he),ee he];rfl
abbrev PR:=(Fm×Nat)⊕Int
def pbind(r:PR)(k:Fm->Nat->PR):PR:=match r with|.inl p=>k p.1 p.2|.inr e=>.inr e
def wb(c:Prop)[Decidable c](e:Int)(r:PR):PR:=if c then .inr e else r
theorem lp{c:Prop}[Decidable c]{e:Int}{r:PR}(h:c):wb c e r=.inr e:=ee h
theorem kK{c:Prop}[Decidable c]{e:Int}{r:PR}(h:¬c):wb c e r=r:=ea h
def lq(e:Int)(r:PR):PR:=if e=0 then r else .inr e
@[simp] theorem gp(f:Fm)(m:Nat)(k:Fm->Nat->PR):pbind (.inl (f,m)) k=k f m:=rfl
theorem ie{e:Int}{r:PR}(h:e=0):lq e r=r:=ee h
theorem j0{e:Int}{r:PR}(h:e≠0):lq e r=.inr e:=ea h
noncomputable def yT (r:PR):PR:=pbind r λf m=>if f.err=0 then .inl (f,if f.has=true then m else 0)else .inr 4
def Dw(r:PR)(k:Int):PR:=pbind r λf m=>if f.acM=k then .inl (f,m)else .inr 10
noncomputable def zM (a b:Fm):Int:=(i_ a b).getD 0
noncomputable def Fp (r:PR) (F:Fm) (t:Tm):PR:=pbind r λf m=>lq (nj F t).2 (lq (zM (nj F t).1 f) (.inl (f,m)))
def Js(t:Tm):Nat->Nat
 |0=>0|j+1=>if 0<t.acU j then Js t j|||2^j else Js t j
def qP(t:Tm):Nat:=Js t 32
def Jz(t:Tm):∀(n i:Nat),(Js t n).testBit i=true↔i<n/\0<t.acU i
 |0,i=>by simp[Js]|n+1,i=>by
  have c:=Jz t n i;rw[Js]
  by_cases h:0<t.acU n
  ·rw[ee h,N3,p9,c,aaF];simp only[nA];constructor
   ·rintro(⟨a,b⟩|rfl)
    ·exact⟨by omega,b⟩
    ·exact⟨by omega,h⟩
   ·rintro⟨a,b⟩
    by_cases hi:n=i
    ·exact .inr hi
    ·exact .inl ⟨by omega,b⟩
  ·rw[ea h,c];constructor
   ·rintro⟨a,b⟩;exact⟨by omega,b⟩
   ·rintro⟨a,b⟩;refine⟨?_,b⟩;rcases sV i n with hh|hh
    ·exact hh
    ·obtain rfl:i=n:=by omega
     exact absurd b h
def JK(t:Tm)(i:Nat):(qP t).testBit i=true↔i<32/\0<t.acU i:=Jz t 32 i
def v0:Tm:=.mk 1 0 (.mk 0 []) []
def v1:Tm:=.mk 1 1 (.mk 0 []) []
noncomputable def p8 (L:List Fm) (k i:Int) (s:Ty) (ts:List Tm) (fs:List Fm) (sub:Nat->List Ty->List Fm->PR) (g:List Ty) (hs:List Fm):PR:=
 let t:=ts.getD 0 Tm.z
 let F:=fs.getD 0 hW
 if k=1 then wb ((hs.length:Int)<=i) 8 (.inl (hs.getD (hs.length-1-i.toNat) hW,0))
 else if k=2 then wb ((L.length:Int)<=i) 9 (.inl (L.getD i.toNat hW,0))
 else if k=3 then pbind (sub 0 g hs) λa m=>pbind (sub 1 g hs) λb n=>.inl (.mk 2 .z [] [a,b],m|||n)
 else if k=4 then pbind (Dw (sub 0 g hs) 2) λa m=>.inl (a.acN.getD 0 hW,m)
 else if k=5 then pbind (Dw (sub 0 g hs) 2) λa m=>.inl (a.acN.getD 1 hW,m)
 else if k=6 then lq (F.vW g) (wb (16<hs.length+1) 3 (pbind (sub 0 g (hs++[F])) λb m=>.inl (.mk 3 .z [] [F,b],m)))
 else if k=7 then pbind (Dw (sub 0 g hs) 3) λa m=>pbind (sub 1 g hs) λb n=>lq (zM (a.acN.getD 0 hW) b) (.inl (a.acN.getD 1 hW,m|||n))
 else if k=8 then wb (16<g.length+1) 3 (pbind (sub 0 (g++[s]) (hs.map (Fm.up 0 1))) λb m=>.inl (.mk 4 s [] [b],m/2))
 else if k=12 then wb (16<g.length+1) 3 (pbind (sub 0 (g++[s]) (hs.map (Fm.up 0 1))) λb m=>wb (m.testBit 0=true) 12 (.inl (.mk 6 s [] [b],m/2)))
 else if k=9 then lq (t.ty g).2 (pbind (Dw (sub 0 g hs) 4) λa m=>wb ((t.ty g).1.kL a.dv=false) 7 (lq (nj (a.acN.getD 0 hW) t).2 (.inl ((nj (a.acN.getD 0 hW) t).1,m|||qP t))))
 else if k=13 then lq (t.ty g).2 (pbind (Dw (sub 0 g hs) 6) λa m=>wb ((t.ty g).1.kL a.dv=false) 7 (lq (nj (a.acN.getD 0 hW) t).2 (.inl ((nj (a.acN.getD 0 hW) t).1,m))))
 else if k=10 then lq (F.vW g) (wb (F.acM≠5) 10 (lq (t.ty g).2 (wb ((t.ty g).1.kL F.dv=false) 7 (pbind (Fp (sub 0 g hs) (F.acN.getD 0 hW) t) λ_ m=>.inl (F,m|||qP t)))))
 else if k=14 then lq (F.vW g) (wb (F.acM≠7) 10 (lq (t.ty g).2 (wb ((t.ty g).1.kL F.dv=false) 7 (pbind (Fp (sub 0 g hs) (F.acN.getD 0 hW) t) λ_ m=>.inl (F,m)))))
 else if k=11 then pbind (Dw (sub 0 g hs) 5) λa m=>wb (16<g.length+1\/16<hs.length+1) 3 (pbind (sub 1 (g++[a.dv]) (hs.map (Fm.up 0 1)++[a.acN.getD 0 hW])) λb n=>lq (y0 b).2 (.inl ((y0 b).1,m|||n/2)))
 else if k=15 then pbind (Dw (sub 0 g hs) 7) λa m=>wb (16<g.length+1\/16<hs.length+1) 3 (pbind (sub 1 (g++[a.dv]) (hs.map (Fm.up 0 1)++[a.acN.getD 0 hW])) λb n=>lq (y0 b).2 (wb (n.testBit 0=true) 12 (.inl ((y0 b).1,m|||n/2))))
 else if k=16 then lq (F.vW (g++[.nat])) (lq (pN t g 1) (pbind (Fp (sub 0 g hs) F gD) λ_ m=>wb (16<g.length+1\/16<hs.length+1) 3 (
  pbind (Fp (sub 1 (g++[.nat]) (hs.map (Fm.up 0 1)++[F])) (F.up 1 1) (iy v0)) λ_ n=>lq (nj F t).2 (.inl ((nj F t).1,(qP t|||m)|||n/2)))))
 else if k=17 then lq (F.vW (g++[.ns])) (lq (pN t g 2) (pbind (Fp (sub 0 g hs) F (.mk 7 0 .z [])) λ_ m=>wb (16<g.length+2\/16<hs.length+1) 3 (
  pbind (Fp (sub 1 (g++[.nat]++[.ns]) (hs.map (Fm.up 0 2)++[F.up 1 1])) (F.up 1 2) (.mk 8 0 .z [v1,v0])) λ_ n=>lq (nj F t).2 (.inl ((nj F t).1,(qP t|||m)|||n/4)))))
 else if k=18 then lq (pN t g 1) (.inl (.mk 1 .z [t,t] [],0))
 else if k=19 then lq (F.vW (g++[.nat])) (pbind (Dw (sub 0 g hs) 1) λa _=>pbind (Fp (sub 1 g hs) F (a.ek.getD 0 Tm.z)) λ_ n=>lq (nj F (a.ek.getD 1 Tm.z)).2 (.inl ((nj F (a.ek.getD 1 Tm.z)).1,n)))
 else pbind (Dw (sub 0 g hs) 4) λa m=>wb ((a.acN.getD 0 hW).acM≠5) 10 (wb ((Ty.fn a.dv (a.acN.getD 0 hW).dv).err≠0) 4 (wb ((nj (((a.acN.getD 0 hW).acN.getD 0 hW).up 2 1) (iQ v1 v0)).2≠0) 4 (.inl (.mk 5 (Ty.fn a.dv (a.acN.getD 0 hW).dv) [] [.mk 4 a.dv [] [(nj (((a.acN.getD 0 hW).acN.getD 0 hW).up 2 1) (iQ v1 v0)).1]],m))))
mutual
noncomputable def Pf.inf (L:List Fm):Pf->List Ty->List Fm->PR
 |.mk k i s ts fs l,g,hs=>yT (p8 L k i s ts fs (Pf.uJ L l) g hs)
noncomputable def Pf.uJ (L:List Fm):List Pf->Nat->List Ty->List Fm->PR
 |[],_,_,_=>.inr 2|p::_,0,g,hs=>p.inf L g hs|_::l,n+1,g,hs=>Pf.uJ L l n g hs
end
def IRs(g:List Ty)(s:PR)(k:Option (ec×Int))(r:Option (sX×Int)):Prop:=
 (∃e,e≠0/\s=.inr e/\k=some (⟨hW,0⟩,e)/\r=some (⟨hW,[]⟩,e))\/∃(f:Fm) (m:Nat) (l:List Int),s=.inl (f,m)/\k=some (⟨f,(m:Int)⟩,0)/\r=some (⟨f,l⟩,0)/\Us l m/\Hg g f
def mv(g:List Ty)(s:PR)(k:Option (ec×Int))(r:Option (Fm×List Int×Int)):Prop:=
 (∃e x f l,e≠0/\s=.inr e/\k=some (x,e)/\r=some (f,l,e))\/∃(f:Fm) (m:Nat) (l:List Int),s=.inl (f,m)/\k=some (⟨f,(m:Int)⟩,0)/\r=some (f,l,0)/\Us l m/\jV g f/\f.acO<=15000000
theorem mv.no{g:List Ty}{s:PR}{k:Option (ec×Int)}{r:Option (Fm×List Int×Int)}{e:Int}{x:ec}{f:Fm}{l:List Int}(he:e≠0)(a:s=.inr e)(b:k=some (x,e))(c:r=some (f,l,e)):mv g s k r:=.inl ⟨e,x,f,l,he,a,b,c⟩
def mv.yes{g:List Ty}{s:PR}{k:Option (ec×Int)}{r:Option (Fm×List Int×Int)}{f:Fm}{m:Nat}{l:List Int}(a:s=.inl (f,m))(b:k=some (⟨f,(m:Int)⟩,0))(c:r=some (f,l,0))(d:Us l m)(e:jV g f)(h:f.acO<=15000000):mv g s k r:=.inr ⟨f,m,l,a,b,c,d,e,h⟩
def mv.infer{g:List Ty}(hg:g.length<=16){s:PR}{k:Option (ec×Int)}{r:Option (Fm×List Int×Int)}(h:mv g s k r):IRs g (yT s) (Km k) (Lc r):=by
 rcases h with⟨e,x,f,l,he,rfl,rfl,rfl⟩|⟨f,m,l,rfl,rfl,rfl,hu,b,hn⟩
 ·refine .inl ⟨e,he,rfl,?_,?_⟩
  ·unfold Km;rw[eb,ee (by rw[ew];exact he)];rfl
  ·unfold Lc;rw[ow,ee (by rw[ew];exact he)];rfl
 ·have c:=b.ok;have hw:=f.jC c;have i:=b.acS 1000000000000 (by omega);have d:yT (.inl (f,m))=if f.err=0 then .inl (f,if f.has=true then m else 0)else .inr 4:=rfl;unfold Km Lc;rw[eb,ow];simp only[eA];rw[ea (by decide),ea (by decide),ly (by omega),m_ (by omega),cl,cl]
  by_cases a:f.err=0
  ·rw[ea (by rw[ew];simp[a]),ea (by rw[ew];simp[a]),DG (by omega) i,En _ (by omega),d,ee a];rw[ea (show¬(f.err≠0) by simpa using a),eb,eb];cases f.has with
   |true=>exact .inr ⟨f,m,l,rfl,rfl,rfl,hu,⟨a,b⟩⟩|false=>exact .inr ⟨f,0,[],rfl,rfl,rfl,.nil,⟨a,b⟩⟩
  ·rw[ee (by rw[ew];exact a),ee (by rw[ew];exact a),d,ea a];exact .inl ⟨4,by decide,rfl,rfl,rfl⟩
def jR(L:List Fm)(P:Pf)(N:Nat):Prop:=∀n n',N<=n->N<=n'->∀p c,PG L p c->IRs c.acQ (P.inf L c.acQ c.acT) (e9 n L P p) (eK n' c P)
def R4{f:Fm}{m:Nat}{k:Int}(h:f.acM=k):Dw (.inl (f,m)) k=.inl (f,m):=by grind[Dw,gp]
def W1{f:Fm}{m:Nat}{k:Int}(h:f.acM≠k):Dw (.inl (f,m)) k=.inr 10:=by grind[Dw,gp]
def nJ{g:List Ty}{s:PR}{n:Nat}{L:List Fm}{P:Pf}{p:eg}{r:Option (sX×Int)}(h:IRs g s (e9 n L P p) r)(k:Int):(∃e,e≠0/\Dw s k=.inr e/\fg (n+1) L P p k=some (⟨hW,0⟩,e)/\((r=some (⟨hW,[]⟩,e))\/∃f l m,r=some (⟨f,l⟩,0)/\f.acM≠k/\e=10/\Us l m))\/∃(f:Fm) (m:Nat) (l:List Int),Dw s k=.inl (f,m)/\fg (n+1) L P p k=some (⟨f,(m:Int)⟩,0)/\r=some (⟨f,l⟩,0)/\Us l m/\Hg g f/\f.acM=k:=by
 rcases h with⟨e,he,a,d,b⟩|⟨f,m,l,a,d,b,hu,i⟩
 ·refine .inl ⟨e,he,by rw[a];rfl,?_,.inl b⟩
  grind[fg,eb,rv,gA]
 ·by_cases c:f.acM=k
  ·grind[Dw,gp,fg,eb,rv,ew]
  ·refine .inl ⟨10,by decide,by rw[a];unfold Dw;rw[gp,ea c],?_,.inr ⟨f,l,m,b,c,rfl,hu⟩⟩;rw[fg,d,eb,ee (by rw[rv,gO,ew,gA];exact⟨rfl,c⟩)];rfl
def Ku{a b:Fm}(d:a.wt<=1000000000)(e:b.wt<=1000000000):i_ a b=some (zM a b)/\oQ a b=some (zM a b):=by
 obtain⟨c,f,g⟩:=BG d e
 have:zM a b=c:=by unfold zM;rw[f];rfl
 grind
structure sZ (g:List Ty) (F:Fm) (t:Tm):Prop where
 fe:F.err=0
 te:t.err=0
 ty:∃s,jV (g++[s]) F/\eY g t s
theorem sZ.put{g:List Ty}{F:Fm}{t:Tm}(h:sZ g F t):jV g (Fm.jF 0 F t):=by
 obtain⟨s,a,b⟩:=h.ty;exact a.put b
def sZ.both{g:List Ty}{F:Fm}{t:Tm}(h:sZ g F t)(hg:g.length<=100):jh F t=some (nj F t)/\j4 F t=some (nj F t):=by
 obtain⟨s,c,d⟩:=h.ty;obtain⟨_,a2⟩:=Fm.hZ h.fe;obtain⟨_,e⟩:=Tm.hZ h.te;have a:F.acS 536870912=true:=c.acS _ (by simp;omega);have b:t.acS 536870912=true:=d.acS _ (by omega);refine⟨Ia h.fe h.te (Fm.m6 F (by omega) a) (Tm.m6 t (by omega) b),?_⟩;unfold j4;rw[Gw h.fe h.te a b h.put.ok];rfl
theorem o7(F:Fm)(t:Tm):nj F t=(hW,4)\/(Fm.jF 0 F t).acO<=4096/\nj F t=(Fm.jF 0 F t,0):=by
 unfold nj
 split
 ·exact .inl rfl
 ·grind
def tv{g:List Ty}(hg:g.length<=16){s:PR}{n n':Nat}{L:List Fm}{P:Pf}{p:eg}{c:ei}(h:IRs g s (e9 n L P p) (eK n' c P)){F:Fm}{t:Tm}(q:sZ g F t):(∃e x l m,e≠0/\Fp s F t=.inr e/\fi (n+1) L P p F t=some (x,e)/\fw (n'+1) c P F t=some (l,e)/\Us l m)\/∃(f:Fm) (m:Nat) (l:List Int),Fp s F t=.inl (f,m)/\fi (n+1) L P p F t=some (⟨f,(m:Int)⟩,0)/\fw (n'+1) c P F t=some (l,0)/\Us l m:=by
 obtain⟨i,k2⟩:=q.both (by omega);rcases h with⟨e,he,j,k,o⟩|⟨f,m,l,j,k,o,hu,r⟩
 ·refine .inl ⟨e,⟨hW,0⟩,[],0,he,by rw[j];rfl,?_,?_,.nil⟩
  ·rw[fi,k,eb,ee (by rw[ew];exact he)];rfl
  ·rw[fw,o,eb,ee (by rw[ew];exact he)]
 ·rcases o7 F t with d|⟨hn,d⟩
  ·rw[d] at i k2;refine .inl ⟨4,⟨hW,0⟩,[],0,by decide,?_,?_,?_,.nil⟩
   ·rw[j];unfold Fp;rw[gp,d];rfl
   ·rw[fi,k,eb,ea (by decide),i,eb,ee (by decide)];rfl
   ·rw[fw,o,eb,ea (by decide),k2,eb,ee (by decide)]
  ·rw[d] at i k2;have B:=Fm.jC _ q.put.ok;have C:=Fm.jC _ r.ok;have u:=r.acO;obtain⟨v,w⟩:=Ku (a:=Fm.jF 0 F t) (b:=f) (by omega) (by omega)
   have y:Fp s F t=lq (zM (Fm.jF 0 F t) f) (.inl (f,m)):=by rw[j];unfold Fp;rw[gp,d,ie rfl]
   have z:fi (n+1) L P p F t=some (⟨f,(m:Int)⟩,zM (Fm.jF 0 F t) f):=by
    rw[fi,k,eb,ea (by decide),i,eb,ea (by decide),v,cl]
   have A:fw (n'+1) c P F t=some (l,zM (Fm.jF 0 F t) f):=by
    rw[fw,o,eb,ea (by decide),k2,eb,ea (by decide),w,cl]
   rw[y,z,A]
   by_cases hm:zM (Fm.jF 0 F t) f=0
   ·rw[ie hm,hm];exact .inr ⟨f,m,l,rfl,rfl,rfl,hu⟩
   ·rw[j0 hm];exact .inl ⟨_,_,_,m,hm,rfl,rfl,rfl,hu⟩
theorem Cc{g:List Ty}(h:iV g)(hg:g.length<=16):wZ g=0:=by
 unfold wZ;rw[ea (by omega)]
 induction g with
 |nil=>rfl|cons s g a=>
  have b:=h s (by simp);simp only[wk,fO];rw[ee b];exact a (λx c=>h x (by simp[c])) (by simp at hg;omega)
def tm{g:List Ty}(a:iV g)(hg:g.length<=17){F:Fm}(hF:F.err=0):eX FU (g.map tk) F=some (F.vW g)/\lh g F=some (F.vW g)/\(g.length<=16->kz g F=some (F.vW g)):=by
 obtain⟨a1,a2⟩:=Fm.hZ hF;have hw:=F.jC a1;refine⟨wJ F a1 FU (by rw[fC];omega) g a (by omega) a2,?_,λb=>?_⟩
 ·unfold lh;rw[m_ (by omega),hF,cl,ea (by decide),zS F a1 FU (by rw[fC];omega) g a (by omega) a2];rfl
 ·rw[vY (by omega) (by omega) (λt c=>by have:=fB (a t c);omega)];unfold FW
  grind[Cc]
def nV{g:List Ty}(a:iV g)(hg:g.length<=16){t:Tm}(b:t.err=0):eZ FU (g.map tk) t=some (IQ (t.ty g))/\k4 g t=some (t.ty g):=by
 obtain⟨a1,a2⟩:=Tm.hZ b;refine⟨xS a1 a (by omega),?_⟩;unfold k4;rw[tl g (by omega) (λt b=>by have:=fB (a t b);omega),Cc a hg,zX a1 a2 a (by omega)];rfl
def has_both{g:List Ty}(b:iV g)(hg:g.length<=16){c:ei}(a:c.acQ=g){t:Tm}(d:t.err=0)(k:Int):iU (g.map tk) t k=some (pN t g k)/\ik c t k=some (pN t g k):=by
 obtain⟨a1,a2⟩:=Tm.hZ d;refine⟨A4 k a1 b (by omega),?_⟩;unfold ik pN;rw[a,(nV b hg d).2]
 grind[eb,ew]
def xz{g:List Ty}(hg:g.length<=16){t:Tm}{s:Ty}(h:eY g t s)(b:t.err=0):∃l,kG t=some (qP t:Int)/\kY t=some l/\Us l (qP t):=by
 obtain⟨a1,a2⟩:=Tm.hZ b;have a:∀j:Int,32<=j->t.acU j=0:=λj e=>h.NQ j (by omega);obtain⟨l,m,f,k,c,d⟩:=Vv b (h.acS _ (by omega)) a
 have:m=qP t:=by
  refine WN λi=>?_;rw[CM,<-c.mem i,d,JK]
  grind
 grind
def nz:¬eW 0 0=true:=by decide
def qQ(n:Nat)(a0:List Fm)(a1:Pf)(a2:eg):Option (ec×Int):=
 if eH a1.acM 1=true then pe a0 a1 a2 else(if eH a1.acM 2=true then nN a0 a1 a2 else(if eH a1.acM 3=true then k9 n a0 a1 a2 else(if eH a1.acM 4=true then iG n a0 a1 a2 else(if eH a1.acM 5=true then iG n a0 a1 a2 else(if eH a1.acM 6=true then k_ n a0 a1 a2 else(if eH a1.acM 7=true then la n a0 a1 a2 else(if eH a1.acM 8=true then im n a0 a1 a2 else(if eH a1.acM 12=true then im n a0 a1 a2 else(if eH a1.acM 9=true then il n a0 a1 a2 else(if eH a1.acM 13=true then il n a0 a1 a2 else(if eH a1.acM 10=true then iI n a0 a1 a2 else(if eH a1.acM 14=true then iI n a0 a1 a2 else(if eH a1.acM 11=true then iF n a0 a1 a2 else(if eH a1.acM 15=true then iF n a0 a1 a2 else(if eH a1.acM 16=true then iH n a0 a1 a2 else(if eH a1.acM 17=true then iH n a0 a1 a2 else(if eH a1.acM 18=true then ou a0 a1 a2 else(if eH a1.acM 19=true then kE n a0 a1 a2 else(if eH a1.acM 20=true then j8 n a0 a1 a2 else none)))))))))))))))))))
def W6(n:Nat)(L:List Fm)(P:Pf)(p:eg):e9 (n+1) L P p=Km (qQ n L P p):=by rw[e9];rfl
def Xx(n:Nat)(c:ei)(P:Pf):eK (n+1) c P=Lc (eE n c P):=by rw[eK];rfl
def Pf.k1(L:List Fm)(k i:Int)(s:Ty)(ts:List Tm)(fs:List Fm)(l:List Pf)(g:List Ty)(hs:List Fm):(Pf.mk k i s ts fs l).inf L g hs=yT (p8 L k i s ts fs (Pf.uJ L l) g hs):=by rw[Pf.inf]
def jR.of{L:List Fm}{k i:Int}{s:Ty}{ts:List Tm}{fs:List Fm}{l:List Pf}{N:Nat}
  (H:∀n n',N<=n->N<=n'->∀p c,PG L p c->mv c.acQ (p8 L k i s ts fs (Pf.uJ L l) c.acQ c.acT) (qQ (n+4) L (.mk k i s ts fs l) p) (eE (n'+4) c (.mk k i s ts fs l))):jR L (.mk k i s ts fs l) (N+5):=by
 intro n n' hn b p c h;obtain⟨m,rfl⟩:∃m,n=m+5:=⟨n-5,by omega⟩;obtain⟨a,rfl⟩:∃a,n'=a+5:=⟨n'-5,by omega⟩;exact mv.infer h.pl.nv (H m a (by omega) (by omega) p c h)
def aaY(n:Nat)(c:ei)(i:Int):eE (n+1) c (.mk 1 i .z [] [] [])=if(ue i (eN c.acT))=true then some (hW,[],8)else cv (eI c.acT (fG .i64 (fG .i64 (eN c.acT) 1) i)) λa=>some (a,[],0):=by rw[eE];rfl
def Rm(L:List Fm)(i:Int)(g:List Ty)(hs:List Fm):p8 L 1 i .z [] [] (Pf.uJ L []) g hs=wb ((hs.length:Int)<=i) 8 (.inl (hs.getD (hs.length-1-i.toNat) hW,0)):=rfl
def aac(n:Nat)(L:List Fm)(i:Int)(p:eg):qQ n L (.mk 1 i .z [] [] []) p=ej (lx p i) λa b=>if b=true then some (⟨a,0⟩,0)else some (⟨hW,0⟩,8):=rfl
def SO{L:List Fm}{i:Int}(hi:0<=i):jR L (.mk 1 i .z [] [] []) 5:=by
 refine jR.of (N:=0) λn n' _ _ p c h=>?_;rw[aaY,Rm,aac];have g:=h.pl.OM hi
 by_cases e:(c.acT.length:Int)<=i
 ·grind[lp,eb,ue,eN,iX,fV,mv.no]
 ·rw[ea e] at g;obtain⟨f,d,k⟩:=g;rw[kK e,k,eb,ee rfl,ea (show¬(ue i (eN c.acT)=true) by rw[iX,fV];exact e),d,cl];have l:=h.pl.nh;rw[fV,fF (a:=(c.acT.length:Int)) (by omega) (by omega),fF (by omega) (by omega)] at d
  have b:c.acT.length-1-i.toNat<c.acT.length:=by omega
  rw[show(c.acT.length:Int)-1-i=((c.acT.length-1-i.toNat:Nat):Int) by omega,jJ,oG b] at d
  have m:c.acT.getD (c.acT.length-1-i.toNat) hW=f:=by grind
  have j:=h.acT f (by rw[<-iD d];exact Cl b);exact mv.yes (by rw[m]) rfl rfl .nil j.ty (by have:=j.acO;omega)
def ZE(n:Nat)(c:ei)(i:Int):eE (n+1) c (.mk 2 i .z [] [] [])=if(ue i (eN c.lemmas))=true then some (hW,[],9)else cv (eI c.lemmas i) λa=>some (a,[],0):=by rw[eE];rfl
def VU(L:List Fm)(i:Int)(g:List Ty)(hs:List Fm):p8 L 2 i .z [] [] (Pf.uJ L []) g hs=wb ((L.length:Int)<=i) 9 (.inl (L.getD i.toNat hW,0)):=rfl
def ZJ(n:Nat)(L:List Fm)(i:Int)(p:eg):qQ n L (.mk 2 i .z [] [] []) p=if(ue i (eN L))=true then some (⟨hW,0⟩,9)else cv (eI L i) λa=>some (⟨a,0⟩,0):=rfl
def Rr{L:List Fm}{i:Int}(hi:0<=i):jR L (.mk 2 i .z [] [] []) 5:=by
 refine jR.of (N:=0) λn n' _ _ p c h=>?_;rw[ZE,VU,ZJ,h.JF]
 by_cases b:(L.length:Int)<=i
 ·grind[lp,iX,fV,mv.no]
 ·obtain⟨k,rfl⟩:∃k:Nat,i=k:=⟨i.toNat,by omega⟩
  have a:k<L.length:=by omega
  rw[kK b,ea (by rw[iX,fV];exact b),ea (by rw[iX,fV];exact b),jJ,oG a,cl,cl]
  have e:L.getD (k:Int).toNat hW=L[k]:=by grind
  have d:=h.XS _ (Cl a);exact mv.yes (by rw[e]) rfl rfl .nil (by simpa using d.ty.front c.acQ) (by have:=d.acO;omega)
def W2(n:Nat)(c:ei)(a b:Pf):eE (n+1) c (.mk 3 0 .z [] [] [a,b])=ej (eK n c a) λd e=>if(eW e 0)=true then some (hW,[],e)else ej (eK n c b) λf g=>cv (ox 2 d.eh f.eh) λh=>cv (gN d.gP f.gP) λi=>some (h,i,g):=by rw[eE];rfl
def RU(L:List Fm)(a b:Pf)(g:List Ty)(hs:List Fm):p8 L 3 0 .z [] [] (Pf.uJ L [a,b]) g hs=pbind (a.inf L g hs) λf m=>pbind (b.inf L g hs) λc n=>.inl (.mk 2 .z [] [f,c],m|||n):=rfl
def W0(n:Nat)(L:List Fm)(a b:Pf)(p:eg):qQ (n+1) L (.mk 3 0 .z [] [] [a,b]) p=ej (e9 n L a p) λc d=>if(eW d 0)=true then some (⟨hW,0⟩,d)else ej (e9 n L b p) λe f=>if(eW f 0)=true then some (⟨hW,0⟩,f)else some (⟨.mk 2 .z [] [c.eh,e.eh],xp .u32 c.gP e.gP⟩,0):=by
 show k9 (n+1) L (.mk 3 0 .z [] [] [a,b]) p=_;rw[k9];rfl
def N4:hW.wt<=1000000:=by decide
def Qf{L:List Fm}{a b:Pf}{N:Nat}(t:jR L a N)(u:jR L b N):jR L (.mk 3 0 .z [] [] [a,b]) (N+5):=by
 refine jR.of λn n' hn v p c h=>?_;rw[W2,RU,W0];rcases t (n+3) (n'+3) (by omega) (by omega) p c h with⟨e,he,d,g,i⟩|⟨f,m,l,d,g,i,hu,o⟩
 ·rw[d,g,i,eb,eb,ee (by rw[ew];exact he),ee (by rw[ew];exact he)];exact mv.no he rfl rfl rfl
 ·have w:=o.acO;have x:=f.jC o.ok;rw[d,g,i,eb,eb,ea (by decide),ea (by decide),gp];rcases u (n+3) (n'+3) (by omega) (by omega) p c h with⟨e,he,d,g,i⟩|⟨y,C,D,d,g,i,k,j⟩
  ·obtain⟨q,q1,_⟩:=hu.union .nil (by have:=hu.len;omega) (by simp);have:=N4;rw[d,g,i,eb,eb,ee (by rw[ew];exact he)];simp only[];rw[Hq (by omega) (by omega),cl,q1];exact mv.no he rfl rfl rfl
  ·have r:=j.acO;have s:=y.jC j.ok;obtain⟨q,q1,A,B,_⟩:=hu.union k (by have:=hu.len;omega) (by have:=k.len;omega);rw[d,g,i,eb,eb,ea (by decide),gp];simp only[];rw[Hq (by omega) (by omega),cl,q1,A];refine mv.yes rfl rfl rfl B (.two (.inl rfl) o.ty j.ty) ?_;rw[Fm.ef];simp only[ez];omega
def jV.JM{g:List Ty}{f:Fm}(h:jV g f){k:Int}(d:f.acM=k)(e:k=2\/k=3):∃a b,f=.mk k .z [] [a,b]/\jV g a/\jV g b:=by
 cases h with
 |eq _ _=>grind[Fm.eM]|two c i j=>grind[Fm.eM]|q c _ _=>grind[Fm.eM]
def jV.wz{g:List Ty}{f:Fm}(h:jV g f){k:Int}(d:f.acM=k)(e:k=4\/k=5\/k=6\/k=7):∃s a,f=.mk k s [] [a]/\s.err=0/\jV (g++[s]) a:=by
 cases h with
 |eq _ _=>grind[Fm.eM]|two b c i=>grind[Fm.eM]|q b hs c=>grind[Fm.eM]
def jV.Wt{g:List Ty}{f:Fm}(h:jV g f)(i:f.acM=1):∃a b,f=.mk 1 .z [a,b] []/\eY g a .nat/\eY g b .nat:=by
 cases h with
 |eq d e=>grind|two c d e=>simp_all|q c hs d=>simp_all
def Hg.sub{g a:List Ty}{k:Int}{s:Ty}{ts:List Tm}{l:List Fm}(h:Hg g (.mk k s ts l)){x:Fm}(c:x∈l)(b:jV a x):Hg a x:=by
 have d:=h.acO;rw[Fm.ef] at d;have:=eJ Fm.acO c;refine⟨?_,b⟩;unfold Fm.err;rw[ee b.ok,ea (by omega)]
def X_(n:Nat)(c:ei)(a:Pf):eE (n+1) c (.mk 4 0 .z [] [] [a])=ej (eK n c a) λb d=>if(eW d 0)=true then some (hW,[],d)else if(eW b.eh.acM 2)=true then some (hW,[],10)else cv (eI b.eh.acN (fG .i64 4 4)) λe=>some (e,b.gP,0):=by rw[eE];rfl
def Xg(n:Nat)(c:ei)(a:Pf):eE (n+1) c (.mk 5 0 .z [] [] [a])=ej (eK n c a) λb d=>if(eW d 0)=true then some (hW,[],d)else if(eW b.eh.acM 2)=true then some (hW,[],10)else cv (eI b.eh.acN (fG .i64 5 4)) λe=>some (e,b.gP,0):=by rw[eE];rfl
def R_(L:List Fm)(a:Pf)(g:List Ty)(hs:List Fm):p8 L 4 0 .z [] [] (Pf.uJ L [a]) g hs=pbind (Dw (a.inf L g hs) 2) λf m=>.inl (f.acN.getD 0 hW,m):=rfl
def SU(L:List Fm)(a:Pf)(g:List Ty)(hs:List Fm):p8 L 5 0 .z [] [] (Pf.uJ L [a]) g hs=pbind (Dw (a.inf L g hs) 2) λf m=>.inl (f.acN.getD 1 hW,m):=rfl
def Yn(n:Nat)(L:List Fm)(a:Pf)(p:eg):qQ (n+1) L (.mk 4 0 .z [] [] [a]) p=ej (fg n L a p 2) λb c=>if(eW c 0)=true then some (⟨hW,0⟩,c)else cv (eI b.eh.acN 0) λd=>some (⟨d,b.gP⟩,0):=by
 show iG (n+1) L (.mk 4 0 .z [] [] [a]) p=_;rw[iG];rfl
def Xe(n:Nat)(L:List Fm)(a:Pf)(p:eg):qQ (n+1) L (.mk 5 0 .z [] [] [a]) p=ej (fg n L a p 2) λb c=>if(eW c 0)=true then some (⟨hW,0⟩,c)else cv (eI b.eh.acN 1) λd=>some (⟨d,b.gP⟩,0):=by
 show iG (n+1) L (.mk 5 0 .z [] [] [a]) p=_;rw[iG];rfl
def PX{L:List Fm}{a:Pf}{N:Nat}(o:jR L a N):jR L (.mk 4 0 .z [] [] [a]) (N+5):=by
 refine jR.of λn n' hn q p c h=>?_;rw[X_,R_,Yn];rcases nJ (o (n+2) (n'+3) (by omega) (by omega) p c h) 2 with⟨e,he,d,g,b⟩|⟨f,m,l,d,g,b,hu,j,i⟩
 ·rw[d,g,eb,ee (by rw[ew];exact he)];rcases b with b|⟨f,l,m,b,i,rfl,_⟩
  ·rw[b,eb,ee (by rw[ew];exact he)];exact mv.no he rfl rfl rfl
  ·rw[b,eb,ea (by decide),ee (by rw[ew];exact i)];exact mv.no he rfl rfl rfl
 ·obtain⟨x,y,rfl,k,hy⟩:=j.ty.JM i (.inl rfl);rw[d,g,b,eb,eb,ea (by decide),ea (by simp),gp];exact mv.yes (f:=x) rfl rfl rfl hu k (by have:=(j.sub (by simp) k).acO;omega)
def Q_{L:List Fm}{a:Pf}{N:Nat}(k:jR L a N):jR L (.mk 5 0 .z [] [] [a]) (N+5):=by
 refine jR.of λn n' hn o p c h=>?_;rw[Xg,SU,Xe];rcases nJ (k (n+2) (n'+3) (by omega) (by omega) p c h) 2 with⟨e,he,d,g,b⟩|⟨f,m,l,d,g,b,hu,j,i⟩
 ·rw[d,g,eb,ee (by rw[ew];exact he)];rcases b with b|⟨f,l,m,b,i,rfl,_⟩
  ·rw[b,eb,ee (by rw[ew];exact he)];exact mv.no he rfl rfl rfl
  ·rw[b,eb,ea (by decide),ee (by rw[ew];exact i)];exact mv.no he rfl rfl rfl
 ·obtain⟨x,y,rfl,q,hy⟩:=j.ty.JM i (.inl rfl);rw[d,g,b,eb,eb,ea (by decide),ea (by simp),gp];exact mv.yes (f:=y) rfl rfl rfl hu hy (by have:=(j.sub (by simp) hy).acO;omega)
def Yh(n:Nat)(c:ei)(F:Fm)(a:Pf):eE (n+1) c (.mk 6 0 .z [] [F] [a])=cv (kz c.acQ F) λb=>if(eW b 0)=true then some (hW,[],b)else cv (eT c 0 1) λd=>if(eW d 0)=true then some (hW,[],d)else cv (gE c F) λf=>ej (eK n f a) λe g=>cv (ox 3 F e.eh) λh=>some (h,e.gP,g):=by rw[eE];rfl
def Rs(L:List Fm)(F:Fm)(a:Pf)(g:List Ty)(hs:List Fm):p8 L 6 0 .z [] [F] (Pf.uJ L [a]) g hs=lq (F.vW g) (wb (16<hs.length+1) 3 (pbind (a.inf L g (hs++[F])) λb m=>.inl (.mk 3 .z [] [F,b],m))):=rfl
def Xo(n:Nat)(L:List Fm)(F:Fm)(a:Pf)(p:eg):qQ (n+1) L (.mk 6 0 .z [] [F] [a]) p=cv (eX FU p.acQ F) λb=>if(eW b 0)=true then some (⟨hW,0⟩,b)else cv (eV p.gj 0 1) λc=>if(eW c 0)=true then some (⟨hW,0⟩,c)else cv (gi p F) λf=>ej (e9 n L a f) λd e=>if(eW e 0)=true then some (⟨hW,0⟩,e)else some (⟨.mk 3 .z [] [F,d.eh],d.gP⟩,0):=by
 show k_ (n+1) L (.mk 6 0 .z [] [F] [a]) p=_;rw[k_];rfl
def QQ{L:List Fm}{F:Fm}(hF:F.err=0){a:Pf}{N:Nat}(u:jR L a N):jR L (.mk 6 0 .z [] [F] [a]) (N+5):=by
 refine jR.of λn n' hn w p c h=>?_;rw[Yh,Rs,Xo];have j:=h.pl.nv;obtain⟨t1,_,t2⟩:=tm h.pl.ctx (by omega) hF;have x:=(Fm.hZ hF).2;have y:=F.jC (Fm.hZ hF).1;rw[h.pl.acQ,t1,t2 j,cl,cl]
 by_cases b:F.vW c.acQ=0
 ·rw[ea (by rw[ew];simpa using b),ea (by rw[ew];simpa using b),ie b];have i:=rY F (Fm.hZ hF).1 c.acQ h.pl.ctx b;rcases h.room (v:=0) (k:=1) (by omega) (by omega)with⟨d,g,_,t⟩|⟨d,g,t⟩
  ·have d:eV p.gj 0 1=some 0:=d;have g:eT c 0 1=some 0:=g;rw[d,g,cl,cl,ea (by decide),ea (by decide),kK (by omega)];obtain⟨A,B,C,D,E,G,H⟩:=h.with ⟨hF,i⟩ t;rw[C,D,cl,cl];have hi:=u (n+3) (n'+3) (by omega) (by omega) A B E;rw[G,H] at hi;rcases hi with⟨e,he,o,q,r⟩|⟨f,m,l,o,q,r,hu,s⟩
   ·have:=N4;rw[o,q,r,eb,eb,ee (by rw[ew];exact he)];simp only[];rw[Hq (by omega) (by omega)];exact mv.no he rfl rfl rfl
   ·have I:=s.acO;have J:=f.jC s.ok;rw[o,q,r,eb,eb,ea (by decide)];simp only[];rw[Hq (by omega) (by omega)];refine mv.yes rfl rfl rfl hu (.two (.inr rfl) i s.ty) ?_;rw[Fm.ef];simp only[ez];omega
  ·have d:eV p.gj 0 1=some 3:=d;have g:eT c 0 1=some 3:=g;rw[d,g,cl,cl,ee (by decide),ee (by decide),lp (by omega)];exact mv.no (by decide) rfl rfl rfl
 ·rw[ee (by rw[ew];exact b),ee (by rw[ew];exact b),j0 b];exact mv.no b rfl rfl rfl
def WZ(n:Nat)(c:ei)(a b:Pf):eE (n+1) c (.mk 7 0 .z [] [] [a,b])=ej (eK n c a) λd e=>if(eW e 0)=true then some (hW,[],e)else if(eW d.eh.acM 3)=true then some (hW,[],10)else ej (eK n c b) λf g=>if(eW g 0)=true then some (hW,[],g)else cv (eI d.eh.acN 1) λh=>cv (gN d.gP f.gP) λi=>cv (eI d.eh.acN 0) λj=>cv (oQ j f.eh) λk=>some (h,i,k):=by rw[eE];rfl
def TS(L:List Fm)(a b:Pf)(g:List Ty)(hs:List Fm):p8 L 7 0 .z [] [] (Pf.uJ L [a,b]) g hs=pbind (Dw (a.inf L g hs) 3) λa m=>pbind (b.inf L g hs) λb n=>lq (zM (a.acN.getD 0 hW) b) (.inl (a.acN.getD 1 hW,m|||n)):=rfl
def XO(n:Nat)(L:List Fm)(a b:Pf)(p:eg):qQ (n+1) L (.mk 7 0 .z [] [] [a,b]) p=ej (fg n L a p 3) λc d=>if(eW d 0)=true then some (⟨hW,0⟩,d)else ej (e9 n L b p) λe f=>if(eW f 0)=true then some (⟨hW,0⟩,f)else cv (eI c.eh.acN 0) λh=>cv (i_ h e.eh) λg=>if(eW g 0)=true then some (⟨hW,0⟩,g)else cv (eI c.eh.acN 1) λi=>some (⟨i,xp .u32 c.gP e.gP⟩,0):=by
 show la (n+1) L (.mk 7 0 .z [] [] [a,b]) p=_;rw[la];rfl
def PN{L:List Fm}{a b:Pf}{N:Nat}(B:jR L a N)(C:jR L b N):jR L (.mk 7 0 .z [] [] [a,b]) (N+5):=by
 refine jR.of λn n' hn D p c h=>?_;rw[WZ,TS,XO];rcases nJ (B (n+2) (n'+3) (by omega) (by omega) p c h) 3 with⟨e,he,g,i,d⟩|⟨f,m,l,g,i,d,hu,o,r⟩
 ·rw[g,i,eb,ee (by rw[ew];exact he)];rcases d with d|⟨f,l,m,d,r,rfl,_⟩
  ·rw[d,eb,ee (by rw[ew];exact he)];exact mv.no he rfl rfl rfl
  ·rw[d,eb,ea (by decide),ee (by rw[ew];exact r)];exact mv.no he rfl rfl rfl
 ·obtain⟨x,y,rfl,v,hy⟩:=o.ty.JM r (.inr rfl);have s:=o.sub (x:=x) (by simp) v;have t:=o.sub (x:=y) (by simp) hy;have E:=x.jC v.ok;have F:=s.acO;rw[g,i,d,eb,eb,ea (by decide),ea (by decide),ea (by simp),gp];rcases C (n+3) (n'+3) (by omega) (by omega) p c h with⟨e,he,g,i,d⟩|⟨u,K,M,g,i,d,j,k⟩
  ·rw[g,i,d,eb,eb,ee (by rw[ew];exact he),ee (by rw[ew];exact he)];exact mv.no he rfl rfl rfl
  ·have w:=k.acO;have A:=u.jC k.ok;obtain⟨q,q1,G,H,_⟩:=hu.union j (by have:=hu.len;omega) (by have:=j.len;omega);obtain⟨I,J⟩:=Ku (a:=x) (b:=u) (by omega) (by omega);rw[g,i,d,eb,eb,ea (by decide),ea (by decide),gp];simp only[Fm.eF,eU,gu,jA,mT,cl,VB,J_];rw[q1,G,I,J,cl,cl,cl]
   by_cases hm:zM x u=0
   ·rw[ie hm,hm,ea (by decide)];exact mv.yes rfl rfl rfl H hy (by have:=t.acO;omega)
   ·rw[j0 hm,ee (by rw[ew];exact hm)];exact mv.no hm rfl rfl rfl
def Us.has{l:List Int}{m:Nat}(h:Us l m):rR l=some (m.testBit 0)/\eW (qC .u32 (m:Int) 1) 0=m.testBit 0:=by
 have hm:=h.mem 0;constructor
 ·unfold rR;simp only[eA];cases l with
  |nil=>simp_all|cons a l=>
   rw[ee (by simp)];simp only[eU,jA,cl]
   congr 1
   rw[CM,gA,<-hm];constructor
   ·rintro rfl;simp
   ·intro hh;rcases l7.1 hh with hh|hh
    ·exact hh.symm
    ·cases h.YG with
     |cons s1 _=>
      have:=s1 0 (by simpa using hh);have:=h.pos a (by simp);omega
 ·rw[show(1:Int)=((1:Nat):Int)from rfl,MC h.lt (by omega)];rw[CM,ew,Nat.testBit_zero,Nat.and_one_is_mod];simp only[nA];omega
def Ym(n:Nat)(c:ei)(s:Ty)(a:Pf):eE (n+2) c (.mk 8 0 s [] [] [a])=iL (cv (eT c 1 0) λk=>if(eW k 0)=true then some (hW,[],k)else cv (fJ c [s]) λh=>ej (eK n h a) λb d=>if(eW d 0)=true then some (hW,[],d)else cv (jS 4 s b.eh) λi=>cv (gS b.gP 1) λj=>some (i,j,0)) λe f g=>some (e,f,g):=by
 rw[eE];rw[kQ];rfl
def Uy(n:Nat)(c:ei)(s:Ty)(a:Pf):eE (n+2) c (.mk 12 0 s [] [] [a])=iL (cv (eT c 1 0) λl=>if(eW l 0)=true then some (hW,[],l)else cv (fJ c [s]) λh=>ej (eK n h a) λb d=>if(eW d 0)=true then some (hW,[],d)else cv (rR b.gP) λi=>if i=true then some (hW,[],12)else cv (jS 6 s b.eh) λj=>cv (gS b.gP 1) λk=>some (j,k,0)) λe f g=>some (e,f,g):=by
 rw[eE];rw[kQ];rfl
def J2(L:List Fm)(s:Ty)(a:Pf)(g:List Ty)(hs:List Fm):p8 L 8 0 s [] [] (Pf.uJ L [a]) g hs=wb (16<g.length+1) 3 (pbind (a.inf L (g++[s]) (hs.map (Fm.up 0 1))) λb m=>.inl (.mk 4 s [] [b],m/2)):=rfl
def Kr(L:List Fm)(s:Ty)(a:Pf)(g:List Ty)(hs:List Fm):p8 L 12 0 s [] [] (Pf.uJ L [a]) g hs=wb (16<g.length+1) 3 (pbind (a.inf L (g++[s]) (hs.map (Fm.up 0 1))) λb m=>wb (m.testBit 0=true) 12 (.inl (.mk 6 s [] [b],m/2))):=rfl
def Yq(n:Nat)(L:List Fm)(s:Ty)(a:Pf)(p:eg):qQ (n+1) L (.mk 8 0 s [] [] [a]) p=cv (eV p.gj 1 0) λf=>if(eW f 0)=true then some (⟨hW,0⟩,f)else cv (fZ p [s]) λd=>ej (e9 n L a d) λb c=>if(eW c 0)=true then some (⟨hW,0⟩,c)else cv (fH b.gP 1) λe=>some (⟨.mk 4 s [] [b.eh],e⟩,0):=by
 show im (n+1) L (.mk 8 0 s [] [] [a]) p=_;rw[im];rfl
def UE(n:Nat)(L:List Fm)(s:Ty)(a:Pf)(p:eg):qQ (n+1) L (.mk 12 0 s [] [] [a]) p=cv (eV p.gj 1 0) λf=>if(eW f 0)=true then some (⟨hW,0⟩,f)else cv (fZ p [s]) λd=>ej (e9 n L a d) λb c=>if(eW c 0)=true then some (⟨hW,0⟩,c)else if(eW (qC .u32 b.gP 1) 0)=true then some (⟨hW,0⟩,12)else cv (fH b.gP 1) λe=>some (⟨.mk 6 s [] [b.eh],e⟩,0):=by
 show im (n+1) L (.mk 12 0 s [] [] [a]) p=_;rw[im];rfl
def PQ{L:List Fm}{s:Ty}(hs:s.err=0){a:Pf}{N:Nat}(t:jR L a N):jR L (.mk 8 0 s [] [] [a]) (N+5):=by
 refine jR.of λn n' hn u p c h=>?_;rw[show n'+4=n'+2+2 from rfl,Ym,J2,Yq];rcases h.room (v:=1) (k:=0) (by omega) (by omega)with⟨b,d,r,_⟩|⟨b,d,r⟩
 ·have b:eV p.gj 1 0=some 0:=b;have d:eT c 1 0=some 0:=d;rw[b,d,cl,cl,ea nz,ea nz,kK (by omega)];obtain⟨w,x,y,z,A,B,C⟩:=h.below hs r;rw[y,z,cl,cl];have hi:=t (n+3) (n'+2) (by omega) (by omega) w x A;rw[B,C] at hi;rcases hi with⟨e,he,g,i,j⟩|⟨f,m,l,g,i,j,hu,o⟩
  ·rw[g,i,j,eb,eb,ee (by rw[ew];exact he),ee (by rw[ew];exact he)];exact mv.no he rfl rfl rfl
  ·have D:=o.acO;have E:=f.jC o.ok;have F:=fB hs;obtain⟨G,H,I⟩:=hu.out (by have:=hu.len;omega) (k:=1) (by omega);rw[g,i,j,eb,eb,ea nz,ea nz,gp];simp only[];rw[BW (by omega) (by omega),cl,show(1:Int)=((1:Nat):Int)from rfl,G,H];refine mv.yes rfl rfl rfl I (.q (.inl rfl) hs o.ty) ?_;rw[Fm.ef];simp only[ez];omega
 ·have b:eV p.gj 1 0=some 3:=b;have d:eT c 1 0=some 3:=d;have J:=h.pl.nh;rw[b,d,cl,cl,ee (by decide),ee (by decide),lp (by omega)];exact mv.no (by decide) rfl rfl rfl
def Oi{L:List Fm}{s:Ty}(hs:s.err=0){a:Pf}{N:Nat}(u:jR L a N):jR L (.mk 12 0 s [] [] [a]) (N+5):=by
 refine jR.of λn n' hn w p c h=>?_;rw[show n'+4=n'+2+2 from rfl,Uy,Kr,UE];rcases h.room (v:=1) (k:=0) (by omega) (by omega)with⟨b,d,t,_⟩|⟨b,d,t⟩
 ·have b:eV p.gj 1 0=some 0:=b;have d:eT c 1 0=some 0:=d;rw[b,d,cl,cl,ea nz,ea nz,kK (by omega)];obtain⟨x,y,z,A,B,C,D⟩:=h.below hs t;rw[z,A,cl,cl];have hi:=u (n+3) (n'+2) (by omega) (by omega) x y B;rw[C,D] at hi;rcases hi with⟨e,he,i,j,o⟩|⟨f,m,l,i,j,o,hu,r⟩
  ·rw[i,j,o,eb,eb,ee (by rw[ew];exact he),ee (by rw[ew];exact he)];exact mv.no he rfl rfl rfl
  ·have E:=r.acO;have F:=f.jC r.ok;have G:=fB hs;obtain⟨H,I,J⟩:=hu.out (by have:=hu.len;omega) (k:=1) (by omega);obtain⟨K,M⟩:=hu.has;rw[i,j,o,eb,eb,ea nz,ea nz,gp];simp only[];rw[K,M,cl]
   by_cases g:m.testBit 0=true
   ·rw[lp g,ee g,ee g];exact mv.no (by decide) rfl rfl rfl
   ·rw[kK g,ea g,ea g,BW (by omega) (by omega),cl,show(1:Int)=((1:Nat):Int)from rfl,H,I];refine mv.yes rfl rfl rfl J (.q (.inr (.inr (.inl rfl))) hs r.ty) ?_;rw[Fm.ef];simp only[ez];omega
 ·have b:eV p.gj 1 0=some 3:=b;have d:eT c 1 0=some 3:=d;have O:=h.pl.nh;rw[b,d,cl,cl,ee (by decide),ee (by decide),lp (by omega)];exact mv.no (by decide) rfl rfl rfl
theorem N2(a b:Ty):a.kL b=b.kL a:=by grind[Ty.j3]
def p6{a b:Ty}(c:a.err=0)(d:b.err=0):iB (tk a) b=some (a.kL b)/\fR FU b a=some (a.kL b):=by
 have e:=fB c;have f:=fB d
 grind[iB,lO,cl,sy,jg,N2]
def aa6(n:Nat)(c:ei)(t:Tm)(a:Pf):eE (n+2) c (.mk 9 0 .z [t] [] [a])=iL (ej (k4 c.acQ t) λp o=>if(eW o 0)=true then some (hW,[],o)else ej (eK n c a) λb d=>if(eW d 0)=true then some (hW,[],d)else cv (kY t) λh=>cv (gN b.gP h) λi=>if(eW b.eh.acM 4)=true then some (hW,[],10)else cv (fR FU b.eh.dv p) λj=>if j=true then cv (eI b.eh.acN 0) λk=>ej (j4 k t) λl m=>some (l,i,m)else some (hW,[],7)) λe f g=>some (e,f,g):=by
 rw[eE];rw[lA];rfl
def WH(n:Nat)(c:ei)(t:Tm)(a:Pf):eE (n+2) c (.mk 13 0 .z [t] [] [a])=iL (ej (k4 c.acQ t) λo m=>if(eW m 0)=true then some (hW,[],m)else ej (eK n c a) λb d=>if(eW d 0)=true then some (hW,[],d)else cv (kY t) λh=>cv (gN b.gP h) λp=>if(eW b.eh.acM 6)=true then some (hW,[],10)else cv (fR FU b.eh.dv o) λi=>if i=true then cv (eI b.eh.acN 0) λj=>ej (j4 j t) λk l=>some (k,b.gP,l)else some (hW,[],7)) λe f g=>some (e,f,g):=by
 rw[eE];rw[lA];rfl
def VK(L:List Fm)(t:Tm)(a:Pf)(g:List Ty)(hs:List Fm):p8 L 9 0 .z [t] [] (Pf.uJ L [a]) g hs=lq (t.ty g).2 (pbind (Dw (a.inf L g hs) 4) λa m=>wb ((t.ty g).1.kL a.dv=false) 7 (lq (nj (a.acN.getD 0 hW) t).2 (.inl ((nj (a.acN.getD 0 hW) t).1,m|||qP t)))):=rfl
def Sr(L:List Fm)(t:Tm)(a:Pf)(g:List Ty)(hs:List Fm):p8 L 13 0 .z [t] [] (Pf.uJ L [a]) g hs=lq (t.ty g).2 (pbind (Dw (a.inf L g hs) 6) λa m=>wb ((t.ty g).1.kL a.dv=false) 7 (lq (nj (a.acN.getD 0 hW) t).2 (.inl ((nj (a.acN.getD 0 hW) t).1,m)))):=rfl
def Zq(n:Nat)(L:List Fm)(t:Tm)(a:Pf)(p:eg):qQ (n+1) L (.mk 9 0 .z [t] [] [a]) p=ej (eZ FU p.acQ t) λj i=>if(eW i 0)=true then some (⟨hW,0⟩,i)else cv (kG t) λd=>ej (fg n L a p 4) λb c=>if(eW c 0)=true then some (⟨hW,0⟩,c)else cv (iB j b.eh.dv) λe=>if e=true then cv (eI b.eh.acN 0) λf=>ej (jh f t) λg h=>some (⟨g,xp .u32 b.gP d⟩,h)else some (⟨hW,0⟩,7):=by
 show il (n+1) L (.mk 9 0 .z [t] [] [a]) p=_;rw[il];rfl
def WX(n:Nat)(L:List Fm)(t:Tm)(a:Pf)(p:eg):qQ (n+1) L (.mk 13 0 .z [t] [] [a]) p=ej (eZ FU p.acQ t) λi h=>if(eW h 0)=true then some (⟨hW,0⟩,h)else cv (kG t) λj=>ej (fg n L a p 6) λb c=>if(eW c 0)=true then some (⟨hW,0⟩,c)else cv (iB i b.eh.dv) λd=>if d=true then cv (eI b.eh.acN 0) λe=>ej (jh e t) λf g=>some (⟨f,xp .u32 b.gP 0⟩,g)else some (⟨hW,0⟩,7):=by
 show il (n+1) L (.mk 13 0 .z [t] [] [a]) p=_;rw[il];rfl
def Mu{m:Nat}(h:m<4294967296):xp .u32 (m:Int) 0=(m:Int):=by
 rw[show(0:Int)=((0:Nat):Int)from rfl,Kb h (by omega),Nat.or_zero]
def vZ{t:Tm}(a:t.err=0){g:List Ty}(b:iV g):(∃e,e≠0/\(t.ty g).2=e/\∃z,t.ty g=(z,e))\/∃s,t.ty g=(s,0)/\eY g t s/\s.err=0:=by
 obtain⟨s,e,c⟩:∃s e,t.ty g=(s,e):=⟨_,_,rfl⟩
 by_cases he:e=0
 ·subst he;obtain⟨d,f⟩:=re _ t (jw _) (Tm.hZ a).1 g b s c
  grind
 ·grind
def Tg{L:List Fm}{t:Tm}(d:t.err=0){a:Pf}{N:Nat}(E:jR L a N):jR L (.mk 9 0 .z [t] [] [a]) (N+5):=by
 refine jR.of λn n' hn F p c h=>?_;have g:=h.pl.nv;rw[show n'+4=n'+2+2 from rfl,aa6,VK,Zq,h.pl.acQ,(nV h.pl.ctx g d).1,(nV h.pl.ctx g d).2];rcases vZ d h.pl.ctx with⟨e,he,q1,z,G⟩|⟨s,q1,j,hs⟩
 ·rw[G,mo he,eb,eb,ee (by rw[ew];exact he),ee (by rw[ew];exact he),j0 he];exact mv.no he rfl rfl rfl
 ·obtain⟨K,f1,f2,f3⟩:=xz g j d;rw[q1,p5,eb,eb,ea nz,ea nz,ie rfl,f1,cl];rcases nJ (E (n+2) (n'+2) (by omega) (by omega) p c h) 4 with⟨e,he,o,r,i⟩|⟨f,m,l,o,r,i,hu,B,u⟩
  ·rw[o,r,eb,ee (by rw[ew];exact he)];rcases i with i|⟨f,l,m,i,u,rfl,hu⟩
   ·rw[i,eb,ee (by rw[ew];exact he)];exact mv.no he rfl rfl rfl
   ·obtain⟨q,v,_⟩:=hu.union f3 (by have:=hu.len;omega) (by have:=f3.len;omega);rw[i,eb,ea nz,f2,cl,v,cl,ee (by rw[ew];exact u)];exact mv.no he rfl rfl rfl
  ·obtain⟨C,x,rfl,k,D⟩:=B.ty.wz u (.inl rfl);have w:=B.sub (x:=x) (by simp) D;obtain⟨q,v,H,I,_⟩:=hu.union f3 (by have:=hu.len;omega) (by have:=f3.len;omega);rw[o,r,i,eb,eb,ea nz,ea nz,f2,cl,gp];simp only[Fm.eM,Fm.ft,Fm.eF,eU,jA,cl,VB];rw[v,H,cl,ea (show¬eW 4 4=true by decide),(p6 hs k).1,(p6 hs k).2,cl,cl]
   by_cases b:s.kL C=true
   ·have:=(Ty.j3 s C).1 b;subst this;have y:sZ c.acQ x t:=⟨w.err,d,s,D,j⟩;rw[kK (by rw[b];decide),ee b,ee b,(y.both (by omega)).1,(y.both (by omega)).2];rcases o7 x t with A|⟨J,A⟩
    ·rw[A,eb,eb,j0 (by decide)];exact mv.no (by decide) rfl rfl rfl
    ·rw[A,eb,eb,ie rfl];exact mv.yes (f:=Fm.jF 0 x t) rfl rfl rfl I y.put (by omega)
   ·rw[lp (by simpa using b),ea b,ea b];exact mv.no (by decide) rfl rfl rfl
def Rc{L:List Fm}{t:Tm}(d:t.err=0){a:Pf}{N:Nat}(E:jR L a N):jR L (.mk 13 0 .z [t] [] [a]) (N+5):=by
 refine jR.of λn n' hn F p c h=>?_;have g:=h.pl.nv;rw[show n'+4=n'+2+2 from rfl,WH,Sr,WX,h.pl.acQ,(nV h.pl.ctx g d).1,(nV h.pl.ctx g d).2];rcases vZ d h.pl.ctx with⟨e,he,q1,z,G⟩|⟨s,q1,j,hs⟩
 ·rw[G,mo he,eb,eb,ee (by rw[ew];exact he),ee (by rw[ew];exact he),j0 he];exact mv.no he rfl rfl rfl
 ·obtain⟨I,f1,f2,f3⟩:=xz g j d;rw[q1,p5,eb,eb,ea nz,ea nz,ie rfl,f1,cl];rcases nJ (E (n+2) (n'+2) (by omega) (by omega) p c h) 6 with⟨e,he,o,r,i⟩|⟨f,m,l,o,r,i,hu,B,u⟩
  ·rw[o,r,eb,ee (by rw[ew];exact he)];rcases i with i|⟨f,l,m,i,u,rfl,hu⟩
   ·rw[i,eb,ee (by rw[ew];exact he)];exact mv.no he rfl rfl rfl
   ·obtain⟨q,v,_⟩:=hu.union f3 (by have:=hu.len;omega) (by have:=f3.len;omega);rw[i,eb,ea nz,f2,cl,v,cl,ee (by rw[ew];exact u)];exact mv.no he rfl rfl rfl
  ·obtain⟨C,x,rfl,k,D⟩:=B.ty.wz u (.inr (.inr (.inl rfl)));have w:=B.sub (x:=x) (by simp) D;obtain⟨q,v,_⟩:=hu.union f3 (by have:=hu.len;omega) (by have:=f3.len;omega);rw[o,r,i,eb,eb,ea nz,ea nz,f2,cl,gp];simp only[Fm.eM,Fm.ft,Fm.eF,eU,jA,cl,VB];rw[v,Mu hu.lt,cl,ea (show¬eW 6 6=true by decide),(p6 hs k).1,(p6 hs k).2,cl,cl]
   by_cases b:s.kL C=true
   ·have:=(Ty.j3 s C).1 b;subst this;have y:sZ c.acQ x t:=⟨w.err,d,s,D,j⟩;rw[kK (by rw[b];decide),ee b,ee b,(y.both (by omega)).1,(y.both (by omega)).2];rcases o7 x t with A|⟨H,A⟩
    ·rw[A,eb,eb,j0 (by decide)];exact mv.no (by decide) rfl rfl rfl
    ·rw[A,eb,eb,ie rfl];exact mv.yes (f:=Fm.jF 0 x t) rfl rfl rfl hu y.put (by omega)
   ·rw[lp (by simpa using b),ea b,ea b];exact mv.no (by decide) rfl rfl rfl
def XQ(n:Nat)(c:ei)(t:Tm)(F:Fm)(a:Pf):eE (n+2) c (.mk 10 0 .z [t] [F] [a])=iL (cv (kz c.acQ F) λb=>if(eW b 0)=true then some (hW,[],b)else if(eW F.acM 5)=true then some (hW,[],10)else ej (k4 c.acQ t) λh d=>if(eW d 0)=true then some (hW,[],d)else cv (fR FU F.dv h) λi=>if i=true then cv (eI F.acN 0) λj=>ej (fw n c a j t) λk l=>cv (kY t) λm=>cv (gN k m) λo=>some (F,o,l)else some (hW,[],7)) λe f g=>some (e,f,g):=by
 rw[eE];rw[lz];rfl
def W8(n:Nat)(c:ei)(t:Tm)(F:Fm)(a:Pf):eE (n+2) c (.mk 14 0 .z [t] [F] [a])=iL (cv (kz c.acQ F) λb=>if(eW b 0)=true then some (hW,[],b)else if(eW F.acM 7)=true then some (hW,[],10)else ej (k4 c.acQ t) λh d=>if(eW d 0)=true then some (hW,[],d)else cv (fR FU F.dv h) λi=>if i=true then cv (eI F.acN 0) λj=>ej (fw n c a j t) λk l=>some (F,k,l)else some (hW,[],7)) λe f g=>some (e,f,g):=by
 rw[eE];rw[lz];rfl
def KB(L:List Fm)(t:Tm)(F:Fm)(a:Pf)(g:List Ty)(hs:List Fm):p8 L 10 0 .z [t] [F] (Pf.uJ L [a]) g hs=lq (F.vW g) (wb (F.acM≠5) 10 (lq (t.ty g).2 (wb ((t.ty g).1.kL F.dv=false) 7 (pbind (Fp (a.inf L g hs) (F.acN.getD 0 hW) t) λ_ m=>.inl (F,m|||qP t))))):=rfl
def Tj(L:List Fm)(t:Tm)(F:Fm)(a:Pf)(g:List Ty)(hs:List Fm):p8 L 14 0 .z [t] [F] (Pf.uJ L [a]) g hs=lq (F.vW g) (wb (F.acM≠7) 10 (lq (t.ty g).2 (wb ((t.ty g).1.kL F.dv=false) 7 (pbind (Fp (a.inf L g hs) (F.acN.getD 0 hW) t) λ_ m=>.inl (F,m))))):=rfl
def WY(n:Nat)(L:List Fm)(t:Tm)(F:Fm)(a:Pf)(p:eg):qQ (n+1) L (.mk 10 0 .z [t] [F] [a]) p=cv (eX FU p.acQ F) λc=>if(eW c 0)=true then some (⟨hW,0⟩,c)else if(eW F.acM 5)=true then some (⟨hW,0⟩,10)else ej (eZ FU p.acQ t) λh d=>if(eW d 0)=true then some (⟨hW,0⟩,d)else cv (iB h F.dv) λi=>if i=true then cv (eI F.acN 0) λe=>ej (fi n L a p e t) λf b=>if(eW b 0)=true then some (⟨hW,0⟩,b)else cv (kG t) λg=>some (⟨F,xp .u32 f.gP g⟩,0)else some (⟨hW,0⟩,7):=by
 show iI (n+1) L (.mk 10 0 .z [t] [F] [a]) p=_;rw[iI];rfl
def X6(n:Nat)(L:List Fm)(t:Tm)(F:Fm)(a:Pf)(p:eg):qQ (n+1) L (.mk 14 0 .z [t] [F] [a]) p=cv (eX FU p.acQ F) λc=>if(eW c 0)=true then some (⟨hW,0⟩,c)else if(eW F.acM 7)=true then some (⟨hW,0⟩,10)else ej (eZ FU p.acQ t) λg d=>if(eW d 0)=true then some (⟨hW,0⟩,d)else cv (iB g F.dv) λh=>if h=true then cv (eI F.acN 0) λe=>ej (fi n L a p e t) λf b=>if(eW b 0)=true then some (⟨hW,0⟩,b)else some (⟨F,xp .u32 f.gP 0⟩,0)else some (⟨hW,0⟩,7):=by
 show iI (n+1) L (.mk 14 0 .z [t] [F] [a]) p=_;rw[iI];rfl
def Q8{L:List Fm}{t:Tm}(d:t.err=0){F:Fm}(hF:F.err=0){a:Pf}{N:Nat}(G:jR L a N):jR L (.mk 10 0 .z [t] [F] [a]) (N+5):=by
 refine jR.of λn n' hn H p c h=>?_;have g:=h.pl.nv;obtain⟨t1,_,t2⟩:=tm h.pl.ctx (by omega) hF;have I:=(Fm.hZ hF).2;rw[show n'+4=n'+2+2 from rfl,XQ,KB,WY,h.pl.acQ,(nV h.pl.ctx g d).1,(nV h.pl.ctx g d).2,t1,t2 g,cl,cl]
 by_cases j:F.vW c.acQ=0
 ·have o:¬eW (F.vW c.acQ) 0=true:=by rw[ew];simpa using j
  rw[ea o,ea o,ie j];have i:=rY F (Fm.hZ hF).1 c.acQ h.pl.ctx j
  by_cases k:F.acM=5
  ·have o:¬eW F.acM 5=true:=by rw[ew];simpa using k
   rw[ea o,ea o,kK (by simpa using k)];rcases vZ d h.pl.ctx with⟨e,he,q1,z,J⟩|⟨s,q1,r,hs⟩
   ·rw[J,mo he,eb,eb,ee (by rw[ew];exact he),ee (by rw[ew];exact he),j0 he];exact mv.no he rfl rfl rfl
   ·obtain⟨v,x,rfl,u,E⟩:=i.wz k (.inr (.inl rfl));have w:Hg c.acQ (.mk 5 v [] [x]):=⟨hF,i⟩;have y:=w.sub (x:=x) (by simp) E;obtain⟨P,f1,f2,f3⟩:=xz g r d;rw[q1,p5,eb,eb,ea nz,ea nz,ie rfl];simp only[Fm.eM,Fm.ft,Fm.eF,eU,jA,cl,VB];rw[(p6 hs u).1,(p6 hs u).2,cl,cl]
    by_cases b:s.kL v=true
    ·have:=(Ty.j3 s v).1 b;subst this;have K:sZ c.acQ x t:=⟨y.err,d,s,E,r⟩;rw[kK (by rw[b];decide),ee b,ee b];rcases tv g (G (n+2) (n'+1) (by omega) (by omega) p c h) K with⟨e,z,l,m,he,A,B,C,hu⟩|⟨f,m,l,A,B,C,hu⟩
     ·obtain⟨q,D,_⟩:=hu.union f3 (by have:=hu.len;omega) (by have:=f3.len;omega);rw[A,B,C,eb,eb,ee (by rw[ew];exact he),f2,cl,D];exact mv.no he rfl rfl rfl
     ·obtain⟨q,D,M,O,_⟩:=hu.union f3 (by have:=hu.len;omega) (by have:=f3.len;omega);rw[A,B,C,eb,eb,ea nz,f1,f2,cl,cl,gp];simp only[];rw[D,M];exact mv.yes rfl rfl rfl O i (by omega)
    ·rw[lp (by simpa using b),ea b,ea b];exact mv.no (by decide) rfl rfl rfl
  ·rw[ee (by rw[ew];exact k),ee (by rw[ew];exact k),lp k];exact mv.no (by decide) rfl rfl rfl
 ·rw[ee (by rw[ew];exact j),ee (by rw[ew];exact j),j0 j];exact mv.no j rfl rfl rfl
def Qq{L:List Fm}{t:Tm}(g:t.err=0){F:Fm}(hF:F.err=0){a:Pf}{N:Nat}(D:jR L a N):jR L (.mk 14 0 .z [t] [F] [a]) (N+5):=by
 refine jR.of λn n' hn E p c h=>?_;have i:=h.pl.nv;obtain⟨t1,_,t2⟩:=tm h.pl.ctx (by omega) hF;have G:=(Fm.hZ hF).2;rw[show n'+4=n'+2+2 from rfl,W8,Tj,X6,h.pl.acQ,(nV h.pl.ctx i g).1,(nV h.pl.ctx i g).2,t1,t2 i,cl,cl]
 by_cases j:F.vW c.acQ=0
 ·have o:¬eW (F.vW c.acQ) 0=true:=by rw[ew];simpa using j
  rw[ea o,ea o,ie j];have d:=rY F (Fm.hZ hF).1 c.acQ h.pl.ctx j
  by_cases k:F.acM=7
  ·have o:¬eW F.acM 7=true:=by rw[ew];simpa using k
   rw[ea o,ea o,kK (by simpa using k)];rcases vZ g h.pl.ctx with⟨e,he,q1,z,H⟩|⟨s,q1,r,hs⟩
   ·rw[H,mo he,eb,eb,ee (by rw[ew];exact he),ee (by rw[ew];exact he),j0 he];exact mv.no he rfl rfl rfl
   ·obtain⟨u,x,rfl,q,C⟩:=d.wz k (.inr (.inr (.inr rfl)));have v:Hg c.acQ (.mk 7 u [] [x]):=⟨hF,d⟩;have w:=v.sub (x:=x) (by simp) C;rw[q1,p5,eb,eb,ea nz,ea nz,ie rfl];simp only[Fm.eM,Fm.ft,Fm.eF,eU,jA,cl,VB];rw[(p6 hs q).1,(p6 hs q).2,cl,cl]
    by_cases b:s.kL u=true
    ·have:=(Ty.j3 s u).1 b;subst this;have I:sZ c.acQ x t:=⟨w.err,g,s,C,r⟩;rw[kK (by rw[b];decide),ee b,ee b];rcases tv i (D (n+2) (n'+1) (by omega) (by omega) p c h) I with⟨e,z,l,m,he,y,A,B,hu⟩|⟨f,m,l,y,A,B,hu⟩
     ·rw[y,A,B,eb,eb,ee (by rw[ew];exact he)];exact mv.no he rfl rfl rfl
     ·rw[y,A,B,eb,eb,ea nz,gp];simp only[];rw[Mu hu.lt];exact mv.yes rfl rfl rfl hu d (by omega)
    ·rw[lp (by simpa using b),ea b,ea b];exact mv.no (by decide) rfl rfl rfl
  ·rw[ee (by rw[ew];exact k),ee (by rw[ew];exact k),lp k];exact mv.no (by decide) rfl rfl rfl
 ·rw[ee (by rw[ew];exact j),ee (by rw[ew];exact j),j0 j];exact mv.no j rfl rfl rfl
def PF(k:Fm->Option (Fm×List Int×Int))(f:Fm):Option (Fm×List Int×Int):=
 cv (pG FU f 0) λc=>if c=true then ej (mI FU f) λa b=>if(eW b 0)=true then some (hW,[],b)else cv (pG FU a 0) λd=>if d=true then some (hW,[],6)else k (.mk a.acM (.mk a.dv.acM a.dv.acN) a.ek a.acN)else k (.mk f.acM (.mk f.dv.acM f.dv.acN) f.ek f.acN)
def Rp(n:Nat)(c:ei)(a b:Pf):eE (n+2) c (.mk 11 0 .z [] [] [a,b])=iL (ej (eK n c a) λd e=>if(eW e 0)=true then some (hW,[],e)else if(eW d.eh.acM 5)=true then some (hW,[],10)else cv (eT c 1 1) λg=>if(eW g 0)=true then some (hW,[],g)else cv (fJ c [d.eh.dv]) λq=>cv (eI d.eh.acN 0) λr=>cv (gE q r) λs=>ej (eK n s b) λh i=>if(eW i 0)=true then some (hW,[],i)else PF (λf=>cv (hI FU f 1 (-1)) λj=>cv (gS h.gP 1) λk=>cv (gN d.gP k) λl=>some (j,l,0)) h.eh) λm o p=>some (m,o,p):=by
 rw[eE];rw[km];rfl
def So(n:Nat)(c:ei)(a b:Pf):eE (n+2) c (.mk 15 0 .z [] [] [a,b])=iL (ej (eK n c a) λd g=>if(eW g 0)=true then some (hW,[],g)else if(eW d.eh.acM 7)=true then some (hW,[],10)else cv (eT c 1 1) λh=>if(eW h 0)=true then some (hW,[],h)else cv (fJ c [d.eh.dv]) λr=>cv (eI d.eh.acN 0) λs=>cv (gE r s) λt=>ej (eK n t b) λe i=>if(eW i 0)=true then some (hW,[],i)else PF (λf=>cv (rR e.gP) λj=>if j=true then some (hW,[],12)else cv (hI FU f 1 (-1)) λk=>cv (gS e.gP 1) λl=>cv (gN d.gP l) λm=>some (k,m,0)) e.eh) λo p q=>some (o,p,q):=by
 rw[eE];rw[km];rfl
def HR(L:List Fm)(a b:Pf)(g:List Ty)(hs:List Fm):p8 L 11 0 .z [] [] (Pf.uJ L [a,b]) g hs=pbind (Dw (a.inf L g hs) 5) λa m=>wb (16<g.length+1\/16<hs.length+1) 3 (pbind (b.inf L (g++[a.dv]) (hs.map (Fm.up 0 1)++[a.acN.getD 0 hW])) λb n=>lq (y0 b).2 (.inl ((y0 b).1,m|||n/2))):=rfl
def Mi(L:List Fm)(a b:Pf)(g:List Ty)(hs:List Fm):p8 L 15 0 .z [] [] (Pf.uJ L [a,b]) g hs=pbind (Dw (a.inf L g hs) 7) λa m=>wb (16<g.length+1\/16<hs.length+1) 3 (pbind (b.inf L (g++[a.dv]) (hs.map (Fm.up 0 1)++[a.acN.getD 0 hW])) λb n=>lq (y0 b).2 (wb (n.testBit 0=true) 12 (.inl ((y0 b).1,m|||n/2)))):=rfl
def S6(n:Nat)(L:List Fm)(a b:Pf)(p:eg):qQ (n+1) L (.mk 11 0 .z [] [] [a,b]) p=ej (fg n L a p 5) λc d=>if(eW d 0)=true then some (⟨hW,0⟩,d)else cv (eV p.gj 1 1) λe=>if(eW e 0)=true then some (⟨hW,0⟩,e)else cv (fZ p [c.eh.dv]) λi=>cv (eI c.eh.acN 0) λj=>cv (gi i j) λk=>ej (e9 n L b k) λf g=>if(eW g 0)=true then some (⟨hW,0⟩,g)else ej (mZ f.eh) λl h=>if(eW h 0)=true then some (⟨hW,0⟩,h)else cv (fH f.gP 1) λm=>some (⟨l,xp .u32 c.gP m⟩,0):=by
 show iF (n+1) L (.mk 11 0 .z [] [] [a,b]) p=_;rw[iF];rfl
def TO(n:Nat)(L:List Fm)(a b:Pf)(p:eg):qQ (n+1) L (.mk 15 0 .z [] [] [a,b]) p=ej (fg n L a p 7) λc e=>if(eW e 0)=true then some (⟨hW,0⟩,e)else cv (eV p.gj 1 1) λf=>if(eW f 0)=true then some (⟨hW,0⟩,f)else cv (fZ p [c.eh.dv]) λi=>cv (eI c.eh.acN 0) λj=>cv (gi i j) λk=>ej (e9 n L b k) λd g=>if(eW g 0)=true then some (⟨hW,0⟩,g)else ej (mZ d.eh) λl h=>if(eW h 0)=true then some (⟨hW,0⟩,h)else if(eW (qC .u32 d.gP 1) 0)=true then some (⟨hW,0⟩,12)else cv (fH d.gP 1) λm=>some (⟨l,xp .u32 c.gP m⟩,0):=by
 show iF (n+1) L (.mk 15 0 .z [] [] [a,b]) p=_;rw[iF];rfl
def MS{g:List Ty}{s:Ty}{f:Fm}(h:Hg (g++[s]) f)(hg:g.length<=1000)(k:Fm->Option (Fm×List Int×Int))(k':Fm->Option (Fm×List Int×Int))(j:∀x,x.acU 0=0->x.acO<=4096*4096->x.acS 1000000000000=true->k x=k' (x.up 1 (-1))):PF k f=if(y0 f).2=0 then k' (y0 f).1 else some (hW,[],(y0 f).2):=by
 have hn:=h.acO;have m:f.acS 1000000000000=true:=h.ty.acS _ (by simp;omega);unfold PF;rw[Cv FU f 0 (by rw[fC];omega) (by omega) (by omega) (by omega),cl,Ty.lZ,Fm.lZ]
 by_cases i:f.acU 0=0
 ·have hw:y0 f=(f.up 1 (-1),0):=by unfold y0;rw[ee i]
  grind
 ·rw[ee (show decide (0<f.acU 0)=true by simp;omega),FB FU f (by rw[fC];omega) (by omega) (Qg.of f hn h.ok (h.ty.acS _ (by simp;omega)))];obtain⟨a,b,d⟩:∃a b,f.ua 0=(a,b):=⟨_,_,rfl⟩
  have hw:y0 f=if b≠0 then(hW,b)else if a.acU 0≠0 then(hW,6)else(a.up 1 (-1),0):=by unfold y0;rw[ea i,d]
  rw[d];simp only[]
  by_cases he:b=0
  ·subst he;have c:=OU h.ty 0 (by simp;omega) hn (by rw[d]);rw[d] at c;obtain⟨_,a2,a3⟩:=c;have a2:jV (g++[s]) a:=a2;have a3:a.acO<=3000*f.acO:=a3;rw[ea (by decide)] at hw;rw[ee rfl,eb,ea nz,Cv FU a 0 (by rw[fC];omega) (by omega) (by omega) (by omega),cl,Ty.lZ,Fm.lZ]
   by_cases e:a.acU 0=0
   ·rw[ea (by simpa using e)] at hw;rw[hw,ea (show¬(decide (0<a.acU 0)=true) by simp;omega)];exact(j a e (by omega) (a2.acS _ (by simp;omega))).trans (ee rfl).symm
   ·rw[ee e] at hw;rw[hw,ee (show decide (0<a.acU 0)=true by simp;omega)];rfl
  ·rw[ee he] at hw
   have l:eW b 0=true:=by rw[ew];exact he
   rw[hw,ea he,eb,ee l,ea he]
def Ni{L:List Fm}{a b:Pf}{N:Nat}(M:jR L a N)(O:jR L b N):jR L (.mk 11 0 .z [] [] [a,b]) (N+5):=by
 refine jR.of λn n' hn P p c h=>?_;have Q:=h.pl.nv;rw[show n'+4=n'+2+2 from rfl,Rp,HR,S6];rcases nJ (M (n+2) (n'+2) (by omega) (by omega) p c h) 5 with⟨e,he,g,i,d⟩|⟨f,m,l,g,i,d,hu,E,A⟩
 ·rw[g,i,eb,ee (by rw[ew];exact he)];rcases d with d|⟨f,l,m,d,A,rfl,_⟩
  ·rw[d,eb,ee (by rw[ew];exact he)];exact mv.no he rfl rfl rfl
  ·rw[d,eb,ea nz,ee (by rw[ew];exact A)];exact mv.no he rfl rfl rfl
 ·obtain⟨s,x,rfl,hs,R⟩:=E.ty.wz A (.inr (.inl rfl));have B:=E.sub (x:=x) (by simp) R;rw[g,i,d,eb,eb,ea nz,ea nz,ea (by simp),gp];simp only[Fm.ft,Fm.eF,eU,jA,cl,VB];rcases h.room (v:=1) (k:=1) (by omega) (by omega)with⟨j,o,F,S⟩|⟨j,o,F⟩
  ·have j:eV p.gj 1 1=some 0:=j;have o:eT c 1 1=some 0:=o;rw[j,o,cl,cl,ea nz,ea nz,kK (by omega)];obtain⟨p1,c1,T,U,V,G,H⟩:=h.below hs F;obtain⟨W,X,Y,Z,b3,b4,b5⟩:=V.with (f:=x) (by rw[G];exact B) (by rw[H];simpa using S);rw[T,U,cl,cl,Y,Z,cl,cl];have hi:=O (n+3) (n'+2) (by omega) (by omega) W X b3;rw[b4,b5,G,H] at hi;rcases hi with⟨e,he,g,i,d⟩|⟨f',I,J,g,i,d,u,r⟩
   ·rw[g,i,d,eb,eb,ee (by rw[ew];exact he),ee (by rw[ew];exact he)];exact mv.no he rfl rfl rfl
   ·obtain⟨C,D,K⟩:=u.out (by have:=u.len;omega) (k:=1) (by omega);have C:gS J 1=some (xw ((1:Nat):Int) J):=C;have D:fH (I:Int) 1=some ((I/2^1:Nat):Int):=D;obtain⟨q,v1,v2,v3,_⟩:=hu.union K (by have:=hu.len;omega) (by have:=K.len;omega);rw[g,i,d,eb,eb,ea nz,ea nz,gp];simp only[];rw[wN r (by omega)]
    rw[MS r (by omega) _ (λy=>some (y,q,0)) (λy y1 y2 y3=>by
     rw[CS FU y 1 (by rw[fC];omega) (by omega) (by omega) (by omega) y3,cl,C,cl,v1,cl])]
    obtain⟨w,e,hw⟩:∃w e,y0 f'=(w,e):=⟨_,_,rfl⟩;rw[hw,eb]
    by_cases he:e=0
    ·subst he;have t:=HT r (by omega) hs (by rw[hw]);rw[hw] at t;rw[ea nz,ee rfl,ie rfl,D,cl,v2];exact mv.yes rfl rfl rfl v3 t.1 (by have:=t.2;omega)
    ·rw[ee (by rw[ew];exact he),ea he,j0 he];exact mv.no he rfl rfl rfl
  ·have j:eV p.gj 1 1=some 3:=j;have o:eT c 1 1=some 3:=o;rw[j,o,cl,cl,ee (by decide),ee (by decide),lp (by omega)];exact mv.no (by decide) rfl rfl rfl
def L9{L:List Fm}{a b:Pf}{N:Nat}(Q:jR L a N)(g:jR L b N):jR L (.mk 15 0 .z [] [] [a,b]) (N+5):=by
 refine jR.of λn n' hn R p c h=>?_;have S:=h.pl.nv;rw[show n'+4=n'+2+2 from rfl,So,Mi,TO];rcases nJ (Q (n+2) (n'+2) (by omega) (by omega) p c h) 7 with⟨e,he,i,j,d⟩|⟨f,m,l,i,j,d,hu,H,C⟩
 ·rw[i,j,eb,ee (by rw[ew];exact he)];rcases d with d|⟨f,l,m,d,C,rfl,_⟩
  ·rw[d,eb,ee (by rw[ew];exact he)];exact mv.no he rfl rfl rfl
  ·rw[d,eb,ea nz,ee (by rw[ew];exact C)];exact mv.no he rfl rfl rfl
 ·obtain⟨s,x,rfl,hs,T⟩:=H.ty.wz C (.inr (.inr (.inr rfl)));have D:=H.sub (x:=x) (by simp) T;rw[i,j,d,eb,eb,ea nz,ea nz,ea (by simp),gp];simp only[Fm.ft,Fm.eF,eU,jA,cl,VB];rcases h.room (v:=1) (k:=1) (by omega) (by omega)with⟨o,r,I,U⟩|⟨o,r,I⟩
  ·have o:eV p.gj 1 1=some 0:=o;have r:eT c 1 1=some 0:=r;rw[o,r,cl,cl,ea nz,ea nz,kK (by omega)];obtain⟨p1,J,V,W,X,K,M⟩:=h.below hs I;obtain⟨Y,E,Z,b2,b3,b4,b5⟩:=X.with (f:=x) (by rw[K];exact D) (by rw[M];simpa using U);rw[V,W,cl,cl,Z,b2,cl,cl];have hi:=g (n+3) (n'+2) (by omega) (by omega) Y E b3;rw[b4,b5,K,M] at hi;rcases hi with⟨e,he,i,j,d⟩|⟨f',B,O,i,j,d,t,u⟩
   ·rw[i,j,d,eb,eb,ee (by rw[ew];exact he),ee (by rw[ew];exact he)];exact mv.no he rfl rfl rfl
   ·obtain⟨F,G,P⟩:=t.out (by have:=t.len;omega) (k:=1) (by omega);have F:gS O 1=some (xw ((1:Nat):Int) O):=F;have G:fH (B:Int) 1=some ((B/2^1:Nat):Int):=G;obtain⟨q,v1,v2,v3,_⟩:=hu.union P (by have:=hu.len;omega) (by have:=P.len;omega);rw[i,j,d,eb,eb,ea nz,ea nz,gp];simp only[];rw[wN u (by omega)];obtain⟨J,E⟩:=t.has
    rw[MS u (by omega) _ (λy=>if B.testBit 0=true then some (hW,[],12)else some (y,q,0)) (λy y1 y2 y3=>by
     rw[J,cl,CS FU y 1 (by rw[fC];omega) (by omega) (by omega) (by omega) y3,cl,F,cl,v1,cl])]
    obtain⟨w,e,hw⟩:∃w e,y0 f'=(w,e):=⟨_,_,rfl⟩;rw[hw,eb]
    by_cases he:e=0
    ·subst he;have A:=HT u (by omega) hs (by rw[hw]);rw[hw] at A;rw[ea nz,ee rfl,ie rfl,E]
     by_cases g:B.testBit 0=true
     ·rw[lp g,ee g,ee g];exact mv.no (by decide) rfl rfl rfl
     ·rw[kK g,ea g,ea g,G,cl,v2];exact mv.yes rfl rfl rfl v3 A.1 (by have:=A.2;omega)
    ·rw[ee (by rw[ew];exact he),ea he,j0 he];exact mv.no he rfl rfl rfl
  ·have o:eV p.gj 1 1=some 3:=o;have r:eT c 1 1=some 3:=r;rw[o,r,cl,cl,ee (by decide),ee (by decide),lp (by omega)];exact mv.no (by decide) rfl rfl rfl
theorem iV.nat{g:List Ty}(h:iV g):iV (g++[.nat]):=h.app Ty.gK
theorem iV.ns{g:List Ty}(h:iV g):iV (g++[.ns]):=h.app Ty.oX
def Al{g:List Ty}(d:iV g){t:Tm}(f:t.err=0){s:Ty}(hs:s=.nat\/s=.ns)(h:pN t g s.acM=0):eY g t s:=by
 rcases vZ f d with⟨e,he,q1,z,j⟩|⟨b,q1,i,a⟩
 ·unfold pN at h
  grind
 ·unfold pN at h;rw[q1] at h
  by_cases c:b.acM=s.acM
  ·have:b=s:=by
    rcases hs with rfl|rfl
    ·exact(vt a).1 c
    ·exact(CD a).1 c
   rwa [<-this]
  ·grind
def uG{F:Fm}(hF:F.err=0)(a:F.acS 1000000000=true){f c:Nat}(b:f<=100)(d:c<=100):fS F (f:Int) (c:Int)=some (F.up f c)/\hI FU F (f:Int) (c:Int)=some (F.up f c):=by
 obtain⟨a1,a2⟩:=Fm.hZ hF;exact⟨uB a1 (by omega) (Fm.m6 _ (by omega) a) (by omega) (by omega) (by omega) (by omega),ui FU F f c (by rw[fC];omega) (by omega) (by omega) (by omega) (by omega) (by omega) (Fm.m6 _ (by omega) a)⟩
def Bz{F:Fm}(hF:F.err=0){f c:Int}(a:0<=f)(b:0<=c):(F.up f c).err=0:=by grind[Fm.hZ,Fm.err,Fm.Jy,Fm.q9]
def uW{F:Fm}{f:Int}:F.up f 0=F:=Fm.M8 F f
def ZI:gD.err=0:=by decide
def Up:(Tm.mk 7 0 .z []).err=0:=by decide
def W4:(iy v0).err=0:=by decide
def WC:(Tm.mk 8 0 .z [v1,v0]).err=0:=by decide
def QD{L:List Fm}{p:eg}{c:ei}(h:PG L p c)(hn:c.acQ.length+2<=16):∃b a,fZ p [.nat,.ns]=some b/\fJ c [.nat,.ns]=some a/\PG L b a/\a.acQ=c.acQ++[.nat]++[.ns]/\a.acT=c.acT.map (Fm.up 0 2):=by
 obtain⟨b,a,d,e,f,g,i⟩:=h.Te (l:=[.nat,.ns]) (λx hx=>by
  rcases l7.1 hx with rfl|hx
  ·exact Ty.gK
  ·rw[we.1 hx];exact Ty.oX) hn
 grind
def Ve(n:Nat)(c:ei)(t:Tm)(F:Fm)(a b:Pf):eE (n+2) c (.mk 16 0 .z [t] [F] [a,b])=iL (hO (gy c.acQ [.nat])<|cv (lh (gU c.acQ [.nat]) F) λe=>if(eW e 0)=true then some (hW,[],e)else cv (ik c t 1) λf=>if(eW f 0)=true then some (hW,[],f)else cv (gd 4 []) λy=>ej (fw n c a F y) λA g=>if(eW g 0)=true then some (hW,[],g)else cv (eT c 1 1) λh=>if(eW h 0)=true then some (hW,[],h)else cv (fJ c [.nat]) λi=>cv (gE i F) λj=>cv (hI FU F 1 1) λk=>cv (gd 5 [v0]) λl=>ej (fw n j b k l) λm d=>if(eW d 0)=true then some (hW,[],d)else ej (j4 F t) λo p=>cv (kY t) λq=>cv (gN q A) λr=>cv (gS m 1) λs=>cv (gN r s) λu=>some (o,u,p)) λv w x=>some (v,w,x):=by
 rw[eE];rw[nM];rfl
def Vk(n:Nat)(c:ei)(t:Tm)(F:Fm)(a b:Pf):eE (n+2) c (.mk 17 0 .z [t] [F] [a,b])=iL (hO (gy c.acQ [.ns])<|cv (lh (gU c.acQ [.ns]) F) λe=>if(eW e 0)=true then some (hW,[],e)else cv (ik c t 2) λf=>if(eW f 0)=true then some (hW,[],f)else cv (gd 7 []) λA=>ej (fw n c a F A) λB g=>if(eW g 0)=true then some (hW,[],g)else cv (eT c 2 1) λh=>if(eW h 0)=true then some (hW,[],h)else cv (fJ c [.nat,.ns]) λi=>cv (hI FU F 1 1) λj=>cv (gE i j) λk=>cv (hI FU F 1 2) λl=>cv (gd 8 [v1,v0]) λm=>ej (fw n k b l m) λo d=>if(eW d 0)=true then some (hW,[],d)else ej (j4 F t) λp q=>cv (kY t) λr=>cv (gN r B) λs=>cv (gS o 2) λu=>cv (gN s u) λv=>some (p,v,q)) λw x y=>some (w,x,y):=by
 rw[eE];rw[mA];rfl
def PE(L:List Fm)(t:Tm)(F:Fm)(a b:Pf)(g:List Ty)(hs:List Fm):p8 L 16 0 .z [t] [F] (Pf.uJ L [a,b]) g hs=lq (F.vW (g++[.nat])) (lq (pN t g 1) (pbind (Fp (a.inf L g hs) F gD) λ_ m=>wb (16<g.length+1\/16<hs.length+1) 3 (pbind (Fp (b.inf L (g++[.nat]) (hs.map (Fm.up 0 1)++[F])) (F.up 1 1) (iy v0)) λ_ n=>lq (nj F t).2 (.inl ((nj F t).1,(qP t|||m)|||n/2))))):=rfl
def Pr(L:List Fm)(t:Tm)(F:Fm)(a b:Pf)(g:List Ty)(hs:List Fm):p8 L 17 0 .z [t] [F] (Pf.uJ L [a,b]) g hs=lq (F.vW (g++[.ns])) (lq (pN t g 2) (pbind (Fp (a.inf L g hs) F (.mk 7 0 .z [])) λ_ m=>wb (16<g.length+2\/16<hs.length+1) 3 (pbind (Fp (b.inf L (g++[.nat]++[.ns]) (hs.map (Fm.up 0 2)++[F.up 1 1])) (F.up 1 2) (.mk 8 0 .z [v1,v0])) λ_ n=>lq (nj F t).2 (.inl ((nj F t).1,(qP t|||m)|||n/4))))):=rfl
def Vh(n:Nat)(L:List Fm)(t:Tm)(F:Fm)(a b:Pf)(p:eg):qQ (n+1) L (.mk 16 0 .z [t] [F] [a,b]) p=cv (gI p.acQ [.nat]) λs=>cv (eX FU s F) λd=>if(eW d 0)=true then some (⟨hW,0⟩,d)else cv (iU p.acQ t 1) λe=>if(eW e 0)=true then some (⟨hW,0⟩,e)else ej (fi n L a p F gD) λu f=>if(eW f 0)=true then some (⟨hW,0⟩,f)else cv (eV p.gj 1 1) λg=>if(eW g 0)=true then some (⟨hW,0⟩,g)else cv (fZ p [.nat]) λh=>cv (fS F 1 (fG .i64 1 1)) λi=>cv (gi h i) λj=>cv (fS F 1 1) λk=>ej (fi n L b j k (iy v0)) λl c=>if(eW c 0)=true then some (⟨hW,0⟩,c)else ej (jh F t) λm o=>cv (kG t) λq=>cv (fH l.gP 1) λr=>some (⟨m,xp .u32 (xp .u32 q u.gP) r⟩,o):=by
 rfl
def Uc(n:Nat)(L:List Fm)(t:Tm)(F:Fm)(a b:Pf)(p:eg):qQ (n+1) L (.mk 17 0 .z [t] [F] [a,b]) p=cv (gI p.acQ [.ns]) λs=>cv (eX FU s F) λd=>if(eW d 0)=true then some (⟨hW,0⟩,d)else cv (iU p.acQ t 2) λe=>if(eW e 0)=true then some (⟨hW,0⟩,e)else ej (fi n L a p F (.mk 7 0 .z [])) λu f=>if(eW f 0)=true then some (⟨hW,0⟩,f)else cv (eV p.gj 2 1) λg=>if(eW g 0)=true then some (⟨hW,0⟩,g)else cv (fZ p [.nat,.ns]) λh=>cv (fS F 1 (fG .i64 2 1)) λi=>cv (gi h i) λj=>cv (fS F 1 2) λk=>ej (fi n L b j k (.mk 8 0 .z [v1,v0])) λl c=>if(eW c 0)=true then some (⟨hW,0⟩,c)else ej (jh F t) λm o=>cv (kG t) λq=>cv (fH l.gP 2) λr=>some (⟨m,xp .u32 (xp .u32 q u.gP) r⟩,o):=by
 rfl
def OG{L:List Fm}{t:Tm}(g:t.err=0){F:Fm}(hF:F.err=0){a b:Pf}{N:Nat}(ha:jR L a N)(hb:jR L b N):jR L (.mk 16 0 .z [t] [F] [a,b]) (N+5):=by
 refine jR.of λn n' hn aa p c h=>?_;have j:=h.pl.nv;have H:=h.pl.ctx;have ab:=(Fm.hZ hF).2;obtain⟨t1,t2,_⟩:=tm H.nat (by simp;omega) hF;obtain⟨s1,s2⟩:=has_both H j rfl g 1;rw[show n'+4=n'+2+2 from rfl,Ve,PE,Vh,h.pl.acQ,sH Ty.gK (by omega),cl,t1,cl,fA (by simp;omega),eo,g_,t2,cl,s1,s2,cl,cl]
 by_cases o:F.vW (c.acQ++[.nat])=0
 ·have r:=o;rw[<-vE (a:=_=_),<-ne_eq,<-ew] at r;rw[ea r,ea r,ie o];have d:=rY F (Fm.hZ hF).1 _ H.nat o;have s:F.acS 1000000000=true:=d.acS _ (by simp;omega)
  by_cases u:pN t c.acQ 1=0
  ·have r:=u;rw[<-vE (a:=_=_),<-ne_eq,<-ew] at r;rw[ea r,ea r,ie u];have E:eY c.acQ t .nat:=Al H g (.inl rfl) u;have K:sZ c.acQ F gD:=⟨hF,ZI,.nat,d,.zero⟩;rw[show gd 4 []=some gD from D0,cl];rcases tv j (ha (n+2) (n'+1) (by omega) (by omega) p c h) K with⟨e,z,l,m,he,i,x,y,hu⟩|⟨f,m,l,i,x,y,hu⟩
   ·rw[i,x,y,eb,eb,ee (by rw[ew];exact he),ee (by rw[ew];exact he)];exact mv.no he rfl rfl rfl
   ·rw[i,x,y,eb,eb,ea nz,ea nz,gp];rcases h.room (v:=1) (k:=1) (by omega) (by omega)with⟨A,B,W,r4⟩|⟨A,B,W⟩
    ·have A:eV p.gj 1 1=some 0:=A;have B:eT c 1 1=some 0:=B;rw[A,B,cl,cl,ea nz,ea nz,kK (by omega)];obtain⟨p1,c1,e1,e2,e3,I,M⟩:=h.below Ty.gK W;obtain⟨p2,J,b1,b2,X,O,Y⟩:=e3.with (f:=F) (by rw[I];exact⟨hF,d⟩) (by rw[M];simpa using r4)
     have l1:fS F 1 (fG .i64 1 1)=some F:=by
      rw[fF (by omega) (by omega)];have:=(uG hF s (f:=1) (c:=0) (by omega) (by omega)).1;rw[show F.up ((1:Nat):Int) ((0:Nat):Int)=F from uW] at this;exact this
     have l2:fS F 1 1=some (F.up 1 1):=(uG hF s (f:=1) (c:=1) (by omega) (by omega)).1;have l3:hI FU F 1 1=some (F.up 1 1):=(uG hF s (f:=1) (c:=1) (by omega) (by omega)).2;rw[e1,e2,cl,cl,l1,cl,b1,b2,cl,cl,l2,l3,cl,cl];rw[show gd 5 [v0]=some (iy v0)from Gn (by decide),cl];have hi:=hb (n+2) (n'+1) (by omega) (by omega) p2 J X;have P:J.acQ.length<=16:=X.pl.nv
     have G:J.acQ=c.acQ++[.nat]:=by rw[O,I]
     have Q:sZ J.acQ (F.up 1 1) (iy v0):=⟨Bz hF (by omega) (by omega),W4,.nat,by
      rw[G];have:=d.up c.acQ [.nat] [.nat] rfl
      simpa using this,by rw[G];exact .succ sm⟩
     rcases tv P hi Q with⟨e,z,R,S,he,i,x,y,C⟩|⟨f',S,R,i,x,y,C⟩
     ·rw[O,Y,I,M] at i;rw[i,x,y,eb,eb,ee (by rw[ew];exact he),ee (by rw[ew];exact he)];exact mv.no he rfl rfl rfl
     ·rw[O,Y,I,M] at i;obtain⟨lf,f1,f2,f3⟩:=xz j E g;have D:sZ c.acQ F t:=⟨hF,g,.nat,d,E⟩;obtain⟨T,U,Z⟩:=C.out (by have:=C.len;omega) (k:=1) (by omega);have T:gS R 1=some (xw ((1:Nat):Int) R):=T;have U:fH (S:Int) 1=some ((S/2^1:Nat):Int):=U;obtain⟨q,v1,v2,v3,_⟩:=f3.union hu (by have:=f3.len;omega) (by have:=hu.len;omega);obtain⟨q',w1,w2,w3,_⟩:=v3.union Z (by have:=v3.len;omega) (by have:=Z.len;omega);rw[i,x,y,eb,eb,ea nz,ea nz,gp,(D.both (by omega)).1,(D.both (by omega)).2];obtain⟨w,e,hw⟩:∃w e,nj F t=(w,e):=⟨_,_,rfl⟩;rw[hw,eb,eb,f1,f2,cl,cl,U,v1,cl,cl,T,cl,w1,cl];simp only[];rw[v2,w2];rcases o7 F t with V|⟨ad,V⟩
      ·rw[V] at hw;obtain⟨rfl,rfl⟩:=iq hw;rw[j0 (by decide)];exact mv.no (by decide) rfl rfl rfl
      ·rw[V] at hw;obtain⟨rfl,rfl⟩:=iq hw;rw[ie rfl];exact mv.yes (f:=Fm.jF 0 F t) rfl rfl rfl w3 D.put (by omega)
    ·have A:eV p.gj 1 1=some 3:=A;have B:eT c 1 1=some 3:=B;rw[A,B,cl,cl,ee (by decide),ee (by decide),lp (by omega)];exact mv.no (by decide) rfl rfl rfl
  ·rw[ee (by rw[ew];exact u),ee (by rw[ew];exact u),j0 u];exact mv.no u rfl rfl rfl
 ·rw[ee (by rw[ew];exact o),ee (by rw[ew];exact o),j0 o];exact mv.no o rfl rfl rfl
def ON{L:List Fm}{t:Tm}(g:t.err=0){F:Fm}(hF:F.err=0){a b:Pf}{N:Nat}(ha:jR L a N)(hb:jR L b N):jR L (.mk 17 0 .z [t] [F] [a,b]) (N+5):=by
 refine jR.of λn n' hn aa p c h=>?_;have o:=h.pl.nv;have H:=h.pl.ctx;have ab:=(Fm.hZ hF).2;obtain⟨t1,t2,_⟩:=tm H.ns (by simp;omega) hF;obtain⟨s1,s2⟩:=has_both H o rfl g 2;rw[show n'+4=n'+2+2 from rfl,Vk,Pr,Uc,h.pl.acQ,sH Ty.oX (by omega),cl,t1,cl,fA (by simp;omega),eo,g_,t2,cl,s1,s2,cl,cl]
 by_cases r:F.vW (c.acQ++[.ns])=0
 ·have s:=r;rw[<-vE (a:=_=_),<-ne_eq,<-ew] at s;rw[ea s,ea s,ie r];have d:=rY F (Fm.hZ hF).1 _ H.ns r;have i:F.acS 1000000000=true:=d.acS _ (by simp;omega)
  by_cases u:pN t c.acQ 2=0
  ·have s:=u;rw[<-vE (a:=_=_),<-ne_eq,<-ew] at s;rw[ea s,ea s,ie u];have E:eY c.acQ t .ns:=Al H g (.inr rfl) u;have K:sZ c.acQ F (.mk 7 0 .z []):=⟨hF,Up,.ns,d,.nil⟩;rw[show gd 7 []=some (.mk 7 0 .z [])from D0,cl];rcases tv o (ha (n+2) (n'+1) (by omega) (by omega) p c h) K with⟨e,z,l,m,he,j,x,y,hu⟩|⟨f,m,l,j,x,y,hu⟩
   ·rw[j,x,y,eb,eb,ee (by rw[ew];exact he),ee (by rw[ew];exact he)];exact mv.no he rfl rfl rfl
   ·rw[j,x,y,eb,eb,ea nz,ea nz,gp];rcases h.room (v:=2) (k:=1) (by omega) (by omega)with⟨A,B,W,r4⟩|⟨A,B,W⟩
    ·have A:eV p.gj 2 1=some 0:=A;have B:eT c 2 1=some 0:=B;rw[A,B,cl,cl,ea nz,ea nz,kK (by omega)];obtain⟨p1,c1,e1,e2,e3,I,M⟩:=QD h W;obtain⟨p2,J,b1,b2,X,O,Y⟩:=e3.with (f:=F.up 1 1) (by rw[I];exact⟨Bz hF (by omega) (by omega),by have:=d.up c.acQ [.ns] [.nat] rfl;simpa using this⟩) (by rw[M];simpa using r4)
     have l1:fS F 1 (fG .i64 2 1)=some (F.up 1 1):=by
      rw[fF (by omega) (by omega)];exact(uG hF i (f:=1) (c:=1) (by omega) (by omega)).1
     have l2:fS F 1 2=some (F.up 1 2):=(uG hF i (f:=1) (c:=2) (by omega) (by omega)).1;have l3:hI FU F 1 1=some (F.up 1 1):=(uG hF i (f:=1) (c:=1) (by omega) (by omega)).2;have l4:hI FU F 1 2=some (F.up 1 2):=(uG hF i (f:=1) (c:=2) (by omega) (by omega)).2;rw[e1,e2,cl,cl,l1,cl,l3,cl,b1,b2,cl,cl,l2,l4,cl,cl];rw[show gd 8 [v1,v0]=some (.mk 8 0 .z [v1,v0])from uc (by decide) (by decide),cl];have hi:=hb (n+2) (n'+1) (by omega) (by omega) p2 J X;have P:J.acQ.length<=16:=X.pl.nv
     have G:J.acQ=c.acQ++[.nat]++[.ns]:=by rw[O,I]
     have Q:sZ J.acQ (F.up 1 2) (.mk 8 0 .z [v1,v0]):=⟨Bz hF (by omega) (by omega),WC,.ns,by
      rw[G];have:=d.up c.acQ [.ns] [.nat,.ns] rfl
      simpa using this,by rw[G];exact .cons C' sm⟩
     rcases tv P hi Q with⟨e,z,R,S,he,j,x,y,C⟩|⟨f',S,R,j,x,y,C⟩
     ·rw[O,Y,I,M] at j;rw[j,x,y,eb,eb,ee (by rw[ew];exact he),ee (by rw[ew];exact he)];exact mv.no he rfl rfl rfl
     ·rw[O,Y,I,M] at j;obtain⟨lf,f1,f2,f3⟩:=xz o E g;have D:sZ c.acQ F t:=⟨hF,g,.ns,d,E⟩;obtain⟨T,U,Z⟩:=C.out (by have:=C.len;omega) (k:=2) (by omega);have T:gS R 2=some (xw ((2:Nat):Int) R):=T;have U:fH (S:Int) 2=some ((S/2^2:Nat):Int):=U;obtain⟨q,v1,v2,v3,_⟩:=f3.union hu (by have:=f3.len;omega) (by have:=hu.len;omega);obtain⟨q',w1,w2,w3,_⟩:=v3.union Z (by have:=v3.len;omega) (by have:=Z.len;omega);rw[j,x,y,eb,eb,ea nz,ea nz,gp,(D.both (by omega)).1,(D.both (by omega)).2];obtain⟨w,e,hw⟩:∃w e,nj F t=(w,e):=⟨_,_,rfl⟩;rw[hw,eb,eb,f1,f2,cl,cl,U,v1,cl,cl,T,cl,w1,cl];simp only[];rw[v2,w2];rcases o7 F t with V|⟨ad,V⟩
      ·rw[V] at hw;obtain⟨rfl,rfl⟩:=iq hw;rw[j0 (by decide)];exact mv.no (by decide) rfl rfl rfl
      ·rw[V] at hw;obtain⟨rfl,rfl⟩:=iq hw;rw[ie rfl];exact mv.yes (f:=Fm.jF 0 F t) rfl rfl rfl w3 D.put (by omega)
    ·have A:eV p.gj 2 1=some 3:=A;have B:eT c 2 1=some 3:=B;rw[A,B,cl,cl,ee (by decide),ee (by decide),lp (by omega)];exact mv.no (by decide) rfl rfl rfl
  ·rw[ee (by rw[ew];exact u),ee (by rw[ew];exact u),j0 u];exact mv.no u rfl rfl rfl
 ·rw[ee (by rw[ew];exact r),ee (by rw[ew];exact r),j0 r];exact mv.no r rfl rfl rfl
def Tm.rq{t:Tm}(h:t.ok=true)(hn:t.acO<=4096):t.err=0:=by grind[Tm.err]
def YD(n:Nat)(c:ei)(t:Tm):eE (n+1) c (.mk 18 0 .z [t] [] [])=cv (k0 t t) λa=>cv (ik c t 1) λb=>some (a,[],b):=by rw[eE];rfl
def OS(L:List Fm)(t:Tm)(g:List Ty)(hs:List Fm):p8 L 18 0 .z [t] [] (Pf.uJ L []) g hs=lq (pN t g 1) (.inl (.mk 1 .z [t,t] [],0)):=rfl
def XG(n:Nat)(L:List Fm)(t:Tm)(p:eg):qQ n L (.mk 18 0 .z [t] [] []) p=cv (iM p.acQ t) λa=>if(eW a 0)=true then some (⟨hW,0⟩,a)else some (⟨.mk 1 .z [t,t] [],0⟩,0):=rfl
def PV{L:List Fm}{t:Tm}(a:t.err=0):jR L (.mk 18 0 .z [t] [] []) 5:=by
 refine jR.of (N:=0) λn n' _ _ p c h=>?_;have e:=h.pl.nv;have f:=h.pl.ctx;obtain⟨a1,a2⟩:=Tm.hZ a;have hw:=t.jC a1;rw[show n'+4=n'+3+1 from rfl,YD,OS,XG,h.pl.acQ,xu a1 f (by omega),(has_both f e rfl a 1).2,zk (by omega) (by omega),cl,cl,cl]
 by_cases b:pN t c.acQ 1=0
 ·have d:eY c.acQ t .nat:=Al f a (.inl rfl) b;rw[ea (by rw[ew];simpa using b),ie b,b];refine mv.yes rfl rfl rfl .nil (.eq d d) ?_;rw[Fm.ef];simp only[ez];omega
 ·rw[ee (by rw[ew];exact b),j0 b];exact mv.no b rfl rfl rfl
def Vj(n:Nat)(c:ei)(F:Fm)(a b:Pf):eE (n+2) c (.mk 19 0 .z [] [F] [a,b])=iL (hO (gy c.acQ [.nat])<|cv (lh (gU c.acQ [.nat]) F) λe=>if(eW e 0)=true then some (hW,[],e)else ej (eK n c a) λd f=>if(eW f 0)=true then some (hW,[],f)else if(eW d.eh.acM 1)=true then some (hW,[],10)else cv (eI d.eh.ek 0) λo=>ej (fw n c b F o) λp g=>if(eW g 0)=true then some (hW,[],g)else cv (eI d.eh.ek 1) λh=>ej (j4 F h) λi j=>some (i,p,j)) λk l m=>some (k,l,m):=by
 rw[eE];rw[mx];rfl
def PH(L:List Fm)(F:Fm)(a b:Pf)(g:List Ty)(hs:List Fm):p8 L 19 0 .z [] [F] (Pf.uJ L [a,b]) g hs=lq (F.vW (g++[.nat])) (pbind (Dw (a.inf L g hs) 1) λa _=>pbind (Fp (b.inf L g hs) F (a.ek.getD 0 Tm.z)) λ_ n=>lq (nj F (a.ek.getD 1 Tm.z)).2 (.inl ((nj F (a.ek.getD 1 Tm.z)).1,n))):=rfl
def T8(n:Nat)(L:List Fm)(F:Fm)(a b:Pf)(p:eg):qQ (n+1) L (.mk 19 0 .z [] [F] [a,b]) p=cv (gI p.acQ [.nat]) λj=>cv (eX FU j F) λc=>if(eW c 0)=true then some (⟨hW,0⟩,c)else ej (fg n L a p 1) λd e=>if(eW e 0)=true then some (⟨hW,0⟩,e)else cv (eI d.eh.ek 0) λk=>ej (fi n L b p F k) λl f=>if(eW f 0)=true then some (⟨hW,0⟩,f)else cv (eI d.eh.ek 1) λg=>ej (jh F g) λh i=>some (⟨h,l.gP⟩,i):=by
 show kE (n+1) L (.mk 19 0 .z [] [F] [a,b]) p=_;rw[kE];rfl
def OP{L:List Fm}{F:Fm}(hF:F.err=0){a b:Pf}{N:Nat}(E:jR L a N)(G:jR L b N):jR L (.mk 19 0 .z [] [F] [a,b]) (N+5):=by
 refine jR.of λn n' hn H p c h=>?_;have r:=h.pl.nv;have B:=h.pl.ctx;have I:=(Fm.hZ hF).2;obtain⟨t1,t2,_⟩:=tm B.nat (by simp;omega) hF;rw[show n'+4=n'+2+2 from rfl,Vj,PH,T8,h.pl.acQ,sH Ty.gK (by omega),cl,t1,cl,fA (by simp;omega),eo,g_,t2,cl]
 by_cases i:F.vW (c.acQ++[.nat])=0
 ·have s:=i;rw[<-vE (a:=_=_),<-ne_eq,<-ew] at s;rw[ea s,ea s,ie i];have g:=rY F (Fm.hZ hF).1 _ B.nat i;rcases nJ (E (n+2) (n'+2) (by omega) (by omega) p c h) 1 with⟨e,he,j,k,d⟩|⟨f,m,l,j,k,d,hu,C,t⟩
  ·rw[j,k,eb,ee (by rw[ew];exact he)];rcases d with d|⟨f,l,m,d,t,rfl,_⟩
   ·rw[d,eb,ee (by rw[ew];exact he)];exact mv.no he rfl rfl rfl
   ·rw[d,eb,ea nz,ee (by rw[ew];exact t)];exact mv.no he rfl rfl rfl
  ·obtain⟨x,y,rfl,D,hy⟩:=C.ty.Wt t;have q:=C.acO;rw[Fm.ef] at q;simp only[ez] at q;have u:x.err=0:=Tm.rq D.ok (by omega);have v:y.err=0:=Tm.rq hy.ok (by omega);have w:sZ c.acQ F x:=⟨hF,u,.nat,g,D⟩;have o:sZ c.acQ F y:=⟨hF,v,.nat,g,hy⟩;rw[j,k,d,eb,eb,ea nz,ea nz,ea (by simp),gp];simp only[Fm.hY,eU,gu,jA,mT,cl,VB,J_];rcases tv r (G (n+2) (n'+1) (by omega) (by omega) p c h) w with⟨e,z,l,m,he,j,k,d,hu⟩|⟨f,m,l,j,k,d,hu⟩
   ·rw[j,k,d,eb,eb,ee (by rw[ew];exact he),ee (by rw[ew];exact he)];exact mv.no he rfl rfl rfl
   ·rw[j,k,d,eb,eb,ea nz,ea nz,gp,(o.both (by omega)).1,(o.both (by omega)).2];rcases o7 F y with A|⟨J,A⟩
    ·rw[A,eb,eb,j0 (by decide)];exact mv.no (by decide) rfl rfl rfl
    ·rw[A,eb,eb,ie rfl];exact mv.yes (f:=Fm.jF 0 F y) rfl rfl rfl hu o.put (by omega)
 ·rw[ee (by rw[ew];exact i),ee (by rw[ew];exact i),j0 i];exact mv.no i rfl rfl rfl
def Ze(f:Fm)(l:List Int):Option (Fm×List Int×Int):=
 eL (λ(d:Bool)=>if d=true then some (hW,[],10)else cv (eI f.acN 0) λa=>cv (lv f.dv a.dv) λb=>cv (jL b) λe=>if(eW e 0)=true then some (hW,[],4)else cv (eI a.acN 0) λg=>cv (hI FU g 2 1) λh=>cv (gd 3 [v1,v0]) λi=>ej (j4 h i) λj k=>cv (jS 4 f.dv j) λm=>cv (jS 5 b m) λn=>some (n,l,k)) λc=>if(eW f.acM 4)=true then c true else cv (eI f.acN 0) λo=>c (eW o.acM 5)
def Uq{f:Fm}{l:List Int}(h:f.acM≠4):Ze f l=some (hW,[],10):=by grind[eW,ew,Ze,eA]
def VA{s:Ty}{x:Fm}{l:List Int}(h:x.acM≠5):Ze (.mk 4 s [] [x]) l=some (hW,[],10):=by
 have o:eW x.acM 5=true:=by rw[ew];exact h
 have e:Ze (.mk 4 s [] [x]) l=(λ(c:Bool)=>if c=true then some (hW,[],10)else cv (eI [x] 0) λa=>cv (lv s a.dv) λb=>cv (jL b) λd=>if(eW d 0)=true then some (hW,[],4)else cv (eI a.acN 0) λf=>cv (hI FU f 2 1) λg=>cv (gd 3 [v1,v0]) λi=>ej (j4 g i) λj k=>cv (jS 4 s j) λm=>cv (jS 5 b m) λn=>some (n,l,k)) (eW x.acM 5):=rfl
 grind
def aaC{s u:Ty}{y:Fm}{l:List Int}:Ze (.mk 4 s [] [.mk 5 u [] [y]]) l=cv (lv s u) λa=>cv (jL a) λb=>if(eW b 0)=true then some (hW,[],4)else cv (hI FU y 2 1) λc=>cv (gd 3 [v1,v0]) λd=>ej (j4 c d) λe f=>cv (jS 4 s e) λg=>cv (jS 5 a g) λh=>some (h,l,f):=rfl
def Tx(n:Nat)(c:ei)(a:Pf):eE (n+2) c (.mk 20 0 .z [] [] [a])=iL (ej (eK n c a) λb d=>if(eW d 0)=true then some (hW,[],d)else Ze b.eh b.gP) λe f g=>some (e,f,g):=by
 rw[eE];rw[lY];rfl
def Nj(L:List Fm)(a:Pf)(g:List Ty)(hs:List Fm):p8 L 20 0 .z [] [] (Pf.uJ L [a]) g hs=pbind (Dw (a.inf L g hs) 4) λa m=>wb ((a.acN.getD 0 hW).acM≠5) 10 (wb ((Ty.fn a.dv (a.acN.getD 0 hW).dv).err≠0) 4 (wb ((nj (((a.acN.getD 0 hW).acN.getD 0 hW).up 2 1) (iQ v1 v0)).2≠0) 4 (.inl (.mk 5 (Ty.fn a.dv (a.acN.getD 0 hW).dv) [] [.mk 4 a.dv [] [(nj (((a.acN.getD 0 hW).acN.getD 0 hW).up 2 1) (iQ v1 v0)).1]],m)))):=rfl
def chK(f:Fm)(u:Int):Option (ec×Int):=
 cv (eI f.acN 0) λa=>if(eW a.acM 5)=true then some (⟨hW,0⟩,10)else cv (pz a.dv [f.dv]) λb=>cv (eI a.acN 0) λd=>cv (fS d 2 1) λe=>cv (iP 1) λg=>cv (iP 0) λh=>cv (sd g [h]) λi=>ej (jh e i) λj k=>eL (λ(l:Bool)=>if l=true then some (⟨hW,0⟩,4)else cv (ki 4 f.dv j) λm=>cv (ki 5 b m) λn=>some (⟨n,u⟩,0)) λc=>if(eW k 0)=true then c true else cv (mL b) λo=>c (eW o 0)
def Ue{s:Ty}{x:Fm}{u:Int}(h:x.acM≠5):chK (.mk 4 s [] [x]) u=some (⟨hW,0⟩,10):=by grind[eW,ew,chK,Fm.eF,eU,cl]
def Tq(n:Nat)(L:List Fm)(a:Pf)(p:eg):qQ (n+1) L (.mk 20 0 .z [] [] [a]) p=ej (fg n L a p 4) λb c=>if(eW c 0)=true then some (⟨hW,0⟩,c)else chK b.eh b.gP:=by
 show j8 (n+1) L (.mk 20 0 .z [] [] [a]) p=_;rfl
def Zp{s u:Ty}{y b:Fm}{m:Int}{q:Fm×Int}(v:fS y 2 1=some b)(x:jh b (iQ v1 v0)=some q)(z:mL (.fn s u)=some (Ty.fn s u).err):chK (.mk 4 s [] [.mk 5 u [] [y]]) m=if q.2=0/\(Ty.fn s u).err=0 then some (⟨.mk 5 (.fn s u) [] [.mk 4 s [] [q.1]],m⟩,0)else some (⟨hW,0⟩,4):=by
 obtain⟨w,e⟩:=q
 have A:chK (.mk 4 s [] [.mk 5 u [] [y]]) m=cv (pz u [s]) λa=>cv (fS y 2 1) λf=>cv (iP 1) λg=>cv (iP 0) λi=>cv (sd g [i]) λj=>ej (jh f j) λk l=>eL (λ(n:Bool)=>if n=true then some (⟨hW,0⟩,4)else cv (ki 4 s k) λo=>cv (ki 5 a o) λp=>some (⟨p,m⟩,0)) λc=>if(eW l 0)=true then c true else cv (mL a) λr=>c (eW r 0):=by
  rfl
 rw[A,QE,cl,v,cl,show iP 1=some v1 from rfl,cl,show iP 0=some v0 from rfl,cl,B4,cl,show Tm.mk 3 0 (.mk 0 []) [v1,v0]=iQ v1 v0 from rfl,x,eb,eA,z,cl]
 by_cases he:e=0
 ·subst he;rw[ea nz]
  by_cases d:(Ty.fn s u).err=0
  ·have t:eW (Ty.fn s u).err 0=false:=by rw[d];rfl
   rw[t,ee ⟨rfl,d⟩];rfl
  ·have t:eW (Ty.fn s u).err 0=true:=by rw[ew];exact d
   rw[t,ea (λh=>d h.2)];rfl
 ·rw[ee (by rw[ew];exact he),ea (λh=>he h.1)];rfl
def L0{L:List Fm}{a:Pf}{N:Nat}(E:jR L a N):jR L (.mk 20 0 .z [] [] [a]) (N+5):=by
 refine jR.of λn n' hn F p c h=>?_;have G:=h.pl.nv;rw[show n'+4=n'+2+2 from rfl,Tx,Nj,Tq];rcases nJ (E (n+2) (n'+2) (by omega) (by omega) p c h) 4 with⟨e,he,k,o,i⟩|⟨f,m,l,k,o,i,hu,C,r⟩
 ·rw[k,o,eb,ee (by rw[ew];exact he)];rcases i with i|⟨f,l,m,i,r,rfl,_⟩
  ·rw[i,eb,ee (by rw[ew];exact he)];exact mv.no he rfl rfl rfl
  ·rw[i,eb,ea nz,Uq r];exact mv.no he rfl rfl rfl
 ·obtain⟨s,x,rfl,hs,D⟩:=C.ty.wz r (.inl rfl);have t:=C.sub (x:=x) (by simp) D;rw[k,o,i,eb,eb,ea nz,ea nz,gp]
  by_cases d:x.acM=5
  ·obtain⟨u,y,rfl,v,hy⟩:=D.wz d (.inr (.inl rfl));have g:=t.sub (x:=y) (by simp) hy;have H:=fB hs;have I:=fB v;have J:=g.acO
   have K:(Ty.fn s u).acO<=1000:=by rw[Ty.ke];omega
   have j:y.acS 1000000000=true:=hy.acS _ (by simp;omega);have M:fS y 2 1=some (y.up 2 1):=(uG g.err j (f:=2) (c:=1) (by omega) (by omega)).1;have O:hI FU y 2 1=some (y.up 2 1):=(uG g.err j (f:=2) (c:=1) (by omega) (by omega)).2
   have w:sZ (c.acQ++[.fn s u]++[s]) (y.up 2 1) (iQ v1 v0):=⟨Bz g.err (by omega) (by omega),by decide,u,by
    have:=hy.up c.acQ [s,u] [.fn s u] (by simp)
    simpa using this,.app C' sm⟩
   obtain⟨P,Q⟩:=w.both (by simp;omega);have R:=N4;have hw:=Fm.jC _ w.put.ok;simp only[Fm.eF,Fm.ft,Fm.eM,VB];rw[kK (by decide),Zp M P (zL (by omega)),aaC,jt (by omega) (by omega),cl,m8 (by omega),cl]
   by_cases b:(Ty.fn s u).err=0
   ·have A:¬eW (Ty.fn s u).err 0=true:=by rw[ew];simpa using b
    rw[ea A,kK (by simpa using b),O,cl,show gd 3 [v1,v0]=some (iQ v1 v0)from uc (by decide) (by decide),cl,Q];rcases o7 (y.up 2 1) (iQ v1 v0)with B|⟨S,B⟩
    ·rw[B,ea (λh=>by cases h.1),eb,lp (by decide),BW (by omega) (by omega),cl];rw[BW (by omega) (by rw[Fm.fM];simp only[ez];omega),cl];exact mv.no (by decide) rfl rfl rfl
    ·rw[B,ee ⟨rfl,b⟩,eb,kK (λh=>h rfl),BW (by omega) (by omega),cl];rw[BW (by omega) (by rw[Fm.fM];simp only[ez];omega),cl];refine mv.yes (f:=.mk 5 (.fn s u) [] [.mk 4 s [] [Fm.jF 0 (y.up 2 1) (iQ v1 v0)]]) rfl rfl rfl hu (.q (.inr (.inl rfl)) b (.q (.inl rfl) hs w.put)) ?_;rw[Fm.ef];simp only[ez];rw[Fm.ef];simp only[ez];omega
   ·have A:eW (Ty.fn s u).err 0=true:=by rw[ew];exact b
    rw[ee A,lp b,ea (λh=>b h.2)];exact mv.no (by decide) rfl rfl rfl
  ·simp only[Fm.eF,VB];rw[Ue d,VA d,lp d];exact mv.no (by decide) rfl rfl rfl
inductive ze:Pf->Prop
 |hyp {i}:0<=i->ze (.mk 1 i .z [] [] [])|JF {i}:0<=i->ze (.mk 2 i .z [] [] [])|Qd {a b}:ze a->ze b->ze (.mk 3 0 .z [] [] [a,b])|and {k a}:k=4\/k=5->ze a->ze (.mk k 0 .z [] [] [a])|QR {F a}:F.err=0->ze a->ze (.mk 6 0 .z [] [F] [a])|QF {a b}:ze a->ze b->ze (.mk 7 0 .z [] [] [a,b])|all {k s a}:k=8\/k=12->s.err=0->ze a->ze (.mk k 0 s [] [] [a])|VI {k t a}:k=9\/k=13->t.err=0->ze a->ze (.mk k 0 .z [t] [] [a])|ex {k t F a}:k=10\/k=14->t.err=0->F.err=0->ze a->ze (.mk k 0 .z [t] [F] [a])|V3 {k a b}:k=11\/k=15->ze a->ze b->ze (.mk k 0 .z [] [] [a,b])|ind {k t F a b}:k=16\/k=17->t.err=0->F.err=0->ze a->ze b->ze (.mk k 0 .z [t] [F] [a,b])|refl {t}:t.err=0->ze (.mk 18 0 .z [t] [] [])|subst {F a b}:F.err=0->ze a->ze b->ze (.mk 19 0 .z [] [F] [a,b])|choice {a}:ze a->ze (.mk 20 0 .z [] [] [a])
mutual
def Pf.yW:Pf->Nat
 |.mk _ _ _ _ _ l=>1+Pf.wc l
def Pf.wc:List Pf->Nat
 |[]=>0|p::l=>p.yW+Pf.wc l
end
theorem jR.mono{L:List Fm}{P:Pf}{N M:Nat}(h:jR L P N)(a:N<=M):jR L P M:=λn n' b c=>h n n' (by omega) (by omega)
def Sp{L:List Fm}{P:Pf}(h:ze P):jR L P (5*P.yW):=by
 induction h with
 |hyp hi=>exact SO hi|JF hi=>exact Rr hi|Qd _ _ a b=>exact(Qf (a.mono (ZO _ _)) (b.mono (Ok _ _))).mono (by simp only[Pf.yW,Pf.wc];omega)|and c _ a=>
  rcases c with rfl|rfl
  ·exact(PX a).mono (by simp only[Pf.yW,Pf.wc];omega)
  ·exact(Q_ a).mono (by simp only[Pf.yW,Pf.wc];omega)
 |QR hF _ a=>exact(QQ hF a).mono (by simp only[Pf.yW,Pf.wc];omega)|QF _ _ a b=>exact(PN (a.mono (ZO _ _)) (b.mono (Ok _ _))).mono (by simp only[Pf.yW,Pf.wc];omega)|all c hs _ a=>
  rcases c with rfl|rfl
  ·exact(PQ hs a).mono (by simp only[Pf.yW,Pf.wc];omega)
  ·exact(Oi hs a).mono (by simp only[Pf.yW,Pf.wc];omega)
 |VI c d _ a=>
  rcases c with rfl|rfl
  ·exact(Tg d a).mono (by simp only[Pf.yW,Pf.wc];omega)
  ·exact(Rc d a).mono (by simp only[Pf.yW,Pf.wc];omega)
 |ex c d hF _ a=>
  rcases c with rfl|rfl
  ·exact(Q8 d hF a).mono (by simp only[Pf.yW,Pf.wc];omega)
  ·exact(Qq d hF a).mono (by simp only[Pf.yW,Pf.wc];omega)
 |V3 c _ _ a b=>
  rcases c with rfl|rfl
  ·exact(Ni (a.mono (ZO _ _)) (b.mono (Ok _ _))).mono (by simp only[Pf.yW,Pf.wc];omega)
  ·exact(L9 (a.mono (ZO _ _)) (b.mono (Ok _ _))).mono (by simp only[Pf.yW,Pf.wc];omega)
 |ind c d hF _ _ a b=>
  rcases c with rfl|rfl
  ·exact(OG d hF (a.mono (ZO _ _)) (b.mono (Ok _ _))).mono (by simp only[Pf.yW,Pf.wc];omega)
  ·exact(ON d hF (a.mono (ZO _ _)) (b.mono (Ok _ _))).mono (by simp only[Pf.yW,Pf.wc];omega)
 |refl d=>exact PV d|subst hF _ _ a b=>exact(OP hF (a.mono (ZO _ _)) (b.mono (Ok _ _))).mono (by simp only[Pf.yW,Pf.wc];omega)|choice _ a=>exact(L0 a).mono (by simp only[Pf.yW,Pf.wc];omega)
mutual
def Pf.acO:Pf->Nat
 |.mk _ _ _ ts fs l=>1+ez Tm.acO ts+ez Fm.acO fs+Pf.oC l
def Pf.oC:List Pf->Nat
 |[]=>0|p::l=>p.acO+Pf.oC l
end
def Pf.rT:∀l:List Pf,Pf.oC l=ez Pf.acO l
 |[]=>by rw[Pf.oC];rfl|p::l=>by rw[Pf.oC,Pf.rT l];rfl
theorem Pf.ef(k i:Int)(s:Ty)(ts:List Tm)(fs:List Fm)(l:List Pf):(Pf.mk k i s ts fs l).acO=1+ez Tm.acO ts+ez Fm.acO fs+ez Pf.acO l:=by rw[Pf.acO,Pf.rT]
mutual
def Pf.wt:Pf->Nat
 |.mk _ _ s ts fs l=>1+s.acO+ez Tm.wt ts+ez Fm.wt fs+Pf.OJ l
def Pf.OJ:List Pf->Nat
 |[]=>0|p::l=>p.wt+Pf.OJ l
end
def Pf.Ei:∀l:List Pf,Pf.OJ l=ez Pf.wt l
 |[]=>by rw[Pf.OJ];rfl|p::l=>by rw[Pf.OJ,Pf.Ei l];rfl
theorem Pf.fM(k i:Int)(s:Ty)(ts:List Tm)(fs:List Fm)(l:List Pf):(Pf.mk k i s ts fs l).wt=1+s.acO+ez Tm.wt ts+ez Fm.wt fs+ez Pf.wt l:=by rw[Pf.wt,Pf.Ei]
def Pf.jB(p:Pf):1<=p.wt:=by cases p;rw[Pf.fM];omega
def Pf.ind{p:Pf->Prop}(h:∀k i s ts fs l,(∀t∈l,p t)->p (.mk k i s ts fs l))(t:Pf):p t:=by
 match t with
 |.mk k i s ts fs l=>exact h k i s ts fs l λx a=>Pf.ind h x
termination_by SizeOf.sizeOf t
decreasing_by
 have:=Ub a;simp only[Pf.mk.sizeOf_spec];omega
def Pf.iS(p:Pf):p.acO<=p.wt:=by
 induction p using Pf.ind with
 |h k i s ts fs l a=>
  rw[Pf.ef,Pf.fM];have b:=kP (l:=ts) (λx _=>Tm.iS x);have c:=kP (l:=fs) (λx _=>Fm.iS x);have d:=kP (l:=l) a;omega
def Pf.sig(k:Int):Option (Bool×Bool×Nat×Nat×Nat):=
 if k=1\/k=2 then some (true,false,0,0,0)
 else if k=3\/k=7\/k=11\/k=15 then some (false,false,0,0,2)
 else if k=4\/k=5\/k=20 then some (false,false,0,0,1)
 else if k=6 then some (false,false,0,1,1)
 else if k=8\/k=12 then some (false,true,0,0,1)
 else if k=9\/k=13 then some (false,false,1,0,1)
 else if k=10\/k=14 then some (false,false,1,1,1)
 else if k=16\/k=17 then some (false,false,1,1,2)
 else if k=18 then some (false,false,1,0,0)
 else if k=19 then some (false,false,0,1,2)
 else none
def Pf.node(k i:Int)(s:Ty)(d nf e:Nat):Bool:=
 match Pf.sig k with
 |none=>false|some (f,ty,a,b,c)=>decide (d=a)&&decide (nf=b)&&decide (e=c)&&decide (0<=i)&&(f||decide (i=0))&&(if ty=true then decide (s.err=0)else s.ra)
mutual
def Pf.ok:Pf->Bool
 |.mk k i s ts fs l=>Pf.node k i s ts.length fs.length l.length&&ts.all Tm.ok&&fs.all Fm.ok&&Pf.JR l
def Pf.JR:List Pf->Bool
 |[]=>true|p::l=>p.ok&&Pf.JR l
end
def Pf.zs:∀l:List Pf,Pf.JR l=l.all Pf.ok
 |[]=>by rw[Pf.JR];rfl|p::l=>by rw[Pf.JR,Pf.zs l];rfl
theorem Pf.ia(k i:Int)(s:Ty)(ts:List Tm)(fs:List Fm)(l:List Pf):(Pf.mk k i s ts fs l).ok=(Pf.node k i s ts.length fs.length l.length&&ts.all Tm.ok&&fs.all Fm.ok&&l.all Pf.ok):=by rw[Pf.ok,Pf.zs]
def Q6(t:Tm):Bool:=decide (t.acO<=4096)
def Rh(f:Fm):Bool:=decide (f.acO<=4096)
mutual
def Pf.small:Pf->Bool
 |.mk _ _ _ ts fs l=>ts.all Q6&&fs.all Rh&&Pf.GA l
def Pf.GA:List Pf->Bool
 |[]=>true|p::l=>p.small&&Pf.GA l
end
def Pf.JX:∀l:List Pf,Pf.GA l=l.all Pf.small
 |[]=>by rw[Pf.GA];rfl|p::l=>by rw[Pf.GA,Pf.JX l];rfl
def Pf.xV(k i:Int)(s:Ty)(ts:List Tm)(fs:List Fm)(l:List Pf):(Pf.mk k i s ts fs l).small=(ts.all Q6&&fs.all Rh&&l.all Pf.small):=by rw[Pf.small,Pf.JX]
def Pf.err(p:Pf):Int:=if p.ok=true then(if p.small=true/\p.acO<=16384 then 0 else 4)else 2
def XF{k:Int}(h:Pf.sig k≠none):k=1\/k=2\/k=3\/k=4\/k=5\/k=6\/k=7\/k=8\/k=9\/k=10\/k=11\/k=12\/k=13\/k=14\/k=15\/k=16\/k=17\/k=18\/k=19\/k=20:=by
 refine Xs λhn=>h ?_;unfold Pf.sig;simp only[not_or] at hn;rw[ea (by omega),ea (by omega),ea (by omega),ea (by omega),ea (by omega),ea (by omega),ea (by omega),ea (by omega),ea (by omega),ea (by omega)]
def Nl{k:Int}(h:k<1\/20<k):Pf.sig k=none:=by
 unfold Pf.sig;rw[ea (by omega),ea (by omega),ea (by omega),ea (by omega),ea (by omega),ea (by omega),ea (by omega),ea (by omega),ea (by omega),ea (by omega)]
def Ra(k:Int):(Pf.sig k=none/\∃r,qe k=some (r,false))\/∃d ty a b c r,Pf.sig k=some (d,ty,a,b,c)/\qe k=some (r,true)/\r.acP=d/\r.typed=ty/\r.ek=((a:Nat):Int)/\r.fj=((b:Nat):Int)/\r.acN=((c:Nat):Int):=by
 by_cases h:k<1\/20<k
 ·refine .inl ⟨Nl h,?_⟩;unfold qe;rw[ee (by rw[mm,p9,mD,iX];omega)];exact⟨_,rfl⟩
 ·have e:k=1\/k=2\/k=3\/k=4\/k=5\/k=6\/k=7\/k=8\/k=9\/k=10\/k=11\/k=12\/k=13\/k=14\/k=15\/k=16\/k=17\/k=18\/k=19\/k=20:=by omega
  refine .inr ?_;rcases e with rfl|rfl|rfl|rfl|rfl|rfl|rfl|rfl|rfl|rfl|rfl|rfl|rfl|rfl|rfl|rfl|rfl|rfl|rfl|rfl<;>exact⟨_,_,_,_,_,_,rfl,rfl,rfl,rfl,rfl,rfl,rfl⟩
def OD(k:Int):(Pf.sig k=none/\∃r,pX k=some (r,false))\/∃d ty a b c r,Pf.sig k=some (d,ty,a,b,c)/\pX k=some (r,true)/\r.acP=d/\r.pM=ty/\r.ek=((a:Nat):Int)/\r.fj=((b:Nat):Int)/\r.acN=((c:Nat):Int):=by
 by_cases h:k<1\/20<k
 ·refine .inl ⟨Nl h,?_⟩;unfold pX;simp only[mm,p9,gA];rw[ea (by omega),ea (by omega),ea (by omega),ea (by omega),ea (by omega),ea (by omega),ea (by omega),ea (by omega),ea (by omega),ea (by omega),ea (by omega)];exact⟨_,rfl⟩
 ·have e:k=1\/k=2\/k=3\/k=4\/k=5\/k=6\/k=7\/k=8\/k=9\/k=10\/k=11\/k=12\/k=13\/k=14\/k=15\/k=16\/k=17\/k=18\/k=19\/k=20:=by omega
  refine .inr ?_;rcases e with rfl|rfl|rfl|rfl|rfl|rfl|rfl|rfl|rfl|rfl|rfl|rfl|rfl|rfl|rfl|rfl|rfl|rfl|rfl|rfl<;>exact⟨_,_,_,_,_,_,rfl,rfl,rfl,rfl,rfl,rfl,rfl⟩
def kA{k i:Int}{s:Ty}{f nf g:Nat}(h:Pf.node k i s f nf g=true){j ty:Bool}{a b c:Nat}(hs:Pf.sig k=some (j,ty,a,b,c)):(f:Int)=a/\(nf:Int)=b/\(g:Int)=c/\0<=i/\(j=false->i=0)/\(ty=true->s.err=0)/\(ty=false->s=.mk 0 []):=by
 unfold Pf.node at h;rw[hs] at h;simp only[gO,nA,p9] at h;obtain⟨⟨⟨⟨⟨o,p⟩,q⟩,l⟩,m⟩,d⟩:=h;refine⟨by omega,by omega,by omega,l,λn=>m.resolve_left (by simp[n]),λe=>?_,λe=>?_⟩
 ·rw[ee e] at d;simpa using d
 ·rw[ea (by simp[e])] at d;exact(Ty.mR s).1 d
def Pf.w(p:Pf):p.ok=true->p.small=true->ze p:=by
 induction p using Pf.ind with
 |h k i s ts fs l y=>
  intro v hs;rw[Pf.ia] at v;rw[Pf.xV] at hs;simp only[gO,ll] at v hs;obtain⟨⟨⟨m,z⟩,A⟩,B⟩:=v;obtain⟨⟨s1,s2⟩,C⟩:=hs;have r:∀t∈ts,t.err=0:=λt q=>Tm.rq (z t q) (by have:=s1 t q;simpa[Q6] using this)
  have u:∀f∈fs,f.err=0:=λf q=>by
   have:=s2 f q;simp only[Rh,nA] at this;unfold Fm.err;rw[ee (A f q),ea (by omega)]
  have j:∀x∈l,ze x:=λx q=>y x q (B x q) (C x q);clear y z A B s1 s2 C;have D:=XF (k:=k) (λhn=>by unfold Pf.node at m;rw[hn] at m;cases m);rcases D with rfl|rfl|rfl|rfl|rfl|rfl|rfl|rfl|rfl|rfl|rfl|rfl|rfl|rfl|rfl|rfl|rfl|rfl|rfl|rfl
  ·obtain⟨q1,c,d,n,e,o,g⟩:=kA m rfl;obtain rfl:=hJ.1 q1;obtain rfl:=hJ.1 c;obtain rfl:=hJ.1 d;obtain rfl:=g rfl;exact .hyp n
  ·obtain⟨q1,c,d,n,e,o,g⟩:=kA m rfl;obtain rfl:=hJ.1 q1;obtain rfl:=hJ.1 c;obtain rfl:=hJ.1 d;obtain rfl:=g rfl;exact .JF n
  ·obtain⟨q1,c,d,n,e,o,g⟩:=kA m rfl;obtain rfl:=hJ.1 q1;obtain rfl:=hJ.1 c;obtain⟨a,b,rfl⟩:=qF d;obtain rfl:=e rfl;obtain rfl:=g rfl;exact .Qd (j a (by simp)) (j b (by simp))
  ·obtain⟨q1,c,d,n,e,o,g⟩:=kA m rfl;obtain rfl:=hJ.1 q1;obtain rfl:=hJ.1 c;obtain⟨a,rfl⟩:=jX d;obtain rfl:=e rfl;obtain rfl:=g rfl;exact .and (.inl rfl) (j a (by simp))
  ·obtain⟨q1,c,d,n,e,o,g⟩:=kA m rfl;obtain rfl:=hJ.1 q1;obtain rfl:=hJ.1 c;obtain⟨a,rfl⟩:=jX d;obtain rfl:=e rfl;obtain rfl:=g rfl;exact .and (.inr rfl) (j a (by simp))
  ·obtain⟨q1,c,d,n,e,o,g⟩:=kA m rfl;obtain rfl:=hJ.1 q1;obtain⟨F,rfl⟩:=jX c;obtain⟨a,rfl⟩:=jX d;obtain rfl:=e rfl;obtain rfl:=g rfl;exact .QR (u F (by simp)) (j a (by simp))
  ·obtain⟨q1,c,d,n,e,o,g⟩:=kA m rfl;obtain rfl:=hJ.1 q1;obtain rfl:=hJ.1 c;obtain⟨a,b,rfl⟩:=qF d;obtain rfl:=e rfl;obtain rfl:=g rfl;exact .QF (j a (by simp)) (j b (by simp))
  ·obtain⟨q1,c,d,n,e,o,g⟩:=kA m rfl;obtain rfl:=hJ.1 q1;obtain rfl:=hJ.1 c;obtain⟨a,rfl⟩:=jX d;obtain rfl:=e rfl;exact .all (.inl rfl) (o rfl) (j a (by simp))
  ·obtain⟨q1,c,d,n,e,o,g⟩:=kA m rfl;obtain⟨t,rfl⟩:=jX q1;obtain rfl:=hJ.1 c;obtain⟨a,rfl⟩:=jX d;obtain rfl:=e rfl;obtain rfl:=g rfl;exact .VI (.inl rfl) (r t (by simp)) (j a (by simp))
  ·obtain⟨q1,c,d,n,e,o,g⟩:=kA m rfl;obtain⟨t,rfl⟩:=jX q1;obtain⟨F,rfl⟩:=jX c;obtain⟨a,rfl⟩:=jX d;obtain rfl:=e rfl;obtain rfl:=g rfl;exact .ex (.inl rfl) (r t (by simp)) (u F (by simp)) (j a (by simp))
  ·obtain⟨q1,c,d,n,e,o,g⟩:=kA m rfl;obtain rfl:=hJ.1 q1;obtain rfl:=hJ.1 c;obtain⟨a,b,rfl⟩:=qF d;obtain rfl:=e rfl;obtain rfl:=g rfl;exact .V3 (.inl rfl) (j a (by simp)) (j b (by simp))
  ·obtain⟨q1,c,d,n,e,o,g⟩:=kA m rfl;obtain rfl:=hJ.1 q1;obtain rfl:=hJ.1 c;obtain⟨a,rfl⟩:=jX d;obtain rfl:=e rfl;exact .all (.inr rfl) (o rfl) (j a (by simp))
  ·obtain⟨q1,c,d,n,e,o,g⟩:=kA m rfl;obtain⟨t,rfl⟩:=jX q1;obtain rfl:=hJ.1 c;obtain⟨a,rfl⟩:=jX d;obtain rfl:=e rfl;obtain rfl:=g rfl;exact .VI (.inr rfl) (r t (by simp)) (j a (by simp))
  ·obtain⟨q1,c,d,n,e,o,g⟩:=kA m rfl;obtain⟨t,rfl⟩:=jX q1;obtain⟨F,rfl⟩:=jX c;obtain⟨a,rfl⟩:=jX d;obtain rfl:=e rfl;obtain rfl:=g rfl;exact .ex (.inr rfl) (r t (by simp)) (u F (by simp)) (j a (by simp))
  ·obtain⟨q1,c,d,n,e,o,g⟩:=kA m rfl;obtain rfl:=hJ.1 q1;obtain rfl:=hJ.1 c;obtain⟨a,b,rfl⟩:=qF d;obtain rfl:=e rfl;obtain rfl:=g rfl;exact .V3 (.inr rfl) (j a (by simp)) (j b (by simp))
  ·obtain⟨q1,c,d,n,e,o,g⟩:=kA m rfl;obtain⟨t,rfl⟩:=jX q1;obtain⟨F,rfl⟩:=jX c;obtain⟨a,b,rfl⟩:=qF d;obtain rfl:=e rfl;obtain rfl:=g rfl;exact .ind (.inl rfl) (r t (by simp)) (u F (by simp)) (j a (by simp)) (j b (by simp))
  ·obtain⟨q1,c,d,n,e,o,g⟩:=kA m rfl;obtain⟨t,rfl⟩:=jX q1;obtain⟨F,rfl⟩:=jX c;obtain⟨a,b,rfl⟩:=qF d;obtain rfl:=e rfl;obtain rfl:=g rfl;exact .ind (.inr rfl) (r t (by simp)) (u F (by simp)) (j a (by simp)) (j b (by simp))
  ·obtain⟨q1,c,d,n,e,o,g⟩:=kA m rfl;obtain⟨t,rfl⟩:=jX q1;obtain rfl:=hJ.1 c;obtain rfl:=hJ.1 d;obtain rfl:=e rfl;obtain rfl:=g rfl;exact .refl (r t (by simp))
  ·obtain⟨q1,c,d,n,e,o,g⟩:=kA m rfl;obtain rfl:=hJ.1 q1;obtain⟨F,rfl⟩:=jX c;obtain⟨a,b,rfl⟩:=qF d;obtain rfl:=e rfl;obtain rfl:=g rfl;exact .subst (u F (by simp)) (j a (by simp)) (j b (by simp))
  ·obtain⟨q1,c,d,n,e,o,g⟩:=kA m rfl;obtain rfl:=hJ.1 q1;obtain rfl:=hJ.1 c;obtain⟨a,rfl⟩:=jX d;obtain rfl:=e rfl;obtain rfl:=g rfl;exact .choice (j a (by simp))
structure TR (d d':et) (s:Bool) (n:Nat):Prop where
 lo:d.acO<=d'.acO
 hi:d'.acO<=d.acO+n
 eq:s=true->d'.acO=d.acO+n
 iE:d'.iE=(d.iE||!s)
def TR.trans{d c a:et}{s e:Bool}{n n':Nat}(h:TR d c s n)(b:TR c a e n'):TR d a (s&&e) (n+n'):=by
 refine⟨by have:=h.lo;have:=b.lo;omega,by have:=h.hi;have:=b.hi;omega,λhs=>?_,?_⟩
 ·rw[gO] at hs;have:=h.eq hs.1;have:=b.eq hs.2;omega
 ·rw[b.iE,h.iE,Bool.not_and,Bool.or_assoc]
def yB{α:Type}{F:Int->α->et->Option (gw et (Bool×et))}(ok small:α->Bool)(sz:α->Nat):∀(l:List α) (i:Nat) (d:et),0<=d.acO->d.acO+ez sz l<=4000000000->(∀(j:Int) (x:α) (d:et),x∈l->0<=d.acO->d.acO+sz x<=4000000000->if ok x=true then∃a,F j x d=some (.next a)/\TR d a (small x) (sz x)else∃a,F j x d=some (.ret (false,a)))->if l.all ok=true then∃a,fo F l i d=some (.inl a)/\TR d a (l.all small) (ez sz l)else∃a,fo F l i d=some (.inr (false,a))
 |[],i,d,_,_,_=>⟨d,rfl,⟨by omega,by simp[ez],λ_=>by simp[ez],by simp⟩⟩|x::l,i,d,m,n,h=>by
  simp only[ez] at n;have b:=h i x d (by simp) m (by omega);rw[wu]
  by_cases c:ok x=true
  ·rw[ee c] at b;obtain⟨d1,e,f⟩:=b;have g:=yB ok small sz l (i+1) d1 (by have:=f.lo;omega) (by have:=f.hi;omega) (λj y d hy=>h j y d (by simp[hy]));rw[fl,e];simp only[cl,fv,ez]
   by_cases k:l.all ok=true
   ·rw[ee k] at g;obtain⟨d2,o,p⟩:=g;rw[ee (by rw[gO];exact⟨c,k⟩)];exact⟨d2,o,f.trans p⟩
   ·grind
  ·rw[ea c] at b;obtain⟨d1,e⟩:=b;rw[ea (by rw[gO];exactλh=>c h.1),fl,e];exact⟨d1,rfl⟩
def D9{d:et}{n e:Int}(a:-1000000000000<=d.acO+n)(b:d.acO+n<=1000000000000):iv d n e=some (eW e 2,⟨d.acO+n,d.iE||eH e 4⟩):=by
 unfold iv;rw[fu (by omega) (by omega)];cases d.iE<;>rfl
def Tm.DK(t:Tm):t.err=2/\t.ok=false\/t.ok=true/\Q6 t=true/\t.err=0\/t.ok=true/\Q6 t=false/\t.err=4:=by
 unfold Tm.err Q6;cases h:t.ok with
 |false=>grind|true=>grind
def Fm.DK(t:Fm):t.err=2/\t.ok=false\/t.ok=true/\Rh t=true/\t.err=0\/t.ok=true/\Rh t=false/\t.err=4:=by
 unfold Fm.err Rh;cases h:t.ok with
 |false=>grind|true=>grind
def GH{sz:Nat}{e:Int}{ok small:Bool}(c:e=2/\ok=false\/ok=true/\small=true/\e=0\/ok=true/\small=false/\e=4)(hs:sz<=1000000000){d:et}(f:0<=d.acO)(g:d.acO+sz<=4000000000):if ok=true then∃b,(ej (iv d (if e=0 then(sz:Int)else 0) e) λa d179=>if a=true then some (.next d179)else some ((.ret (false,d179)):gw et (Bool×et)))=some (.next b)/\TR d b small sz else∃b,(ej (iv d (if e=0 then(sz:Int)else 0) e) λa d179=>if a=true then some (.next d179)else some ((.ret (false,d179)):gw et (Bool×et)))=some (.ret (false,b)):=by
 rcases c with⟨rfl,rfl⟩|⟨rfl,rfl,rfl⟩|⟨rfl,rfl,rfl⟩
 ·exact⟨_,rfl⟩
 ·rw[ee rfl,ee rfl,D9 (by omega) (by omega),eb,ee (by decide)];refine⟨_,rfl,⟨?_,?_,λ_=>rfl,?_⟩⟩
  all_goals grind[eH]
 ·rw[ee rfl,ea (by decide),D9 (by omega) (by omega),eb,ee (by decide)];refine⟨_,rfl,⟨?_,?_,λh=>by(cases h),?_⟩⟩
  all_goals grind[eH]
def G_{f:Bool}{i a b c d nf e:Int}:fW true (fW (uX i 0) true (fW (eW i 0) (fW f (fW (eW d a) true (fW (eW nf b) true (eW e c))) true) (fW (eW d a) true (fW (eW nf b) true (eW e c))))) true=true↔¬(d=a/\nf=b/\e=c/\0<=i/\(f=true\/i=0)):=by
 grind[xn,mm,eW,xE,mD]
def HP{d:Bool}{i a b c e nf f:Int}:fW true (fW (eW e a) true (fW (eW nf b) true (fW (eW f c) true (fW (uX i 0) true (fW d false (eW i 0)))))) true=true↔¬(e=a/\nf=b/\f=c/\0<=i/\(d=true\/i=0)):=by
 cases d with
 |true=>
  grind[xn,mm,mD,ew]
 |false=>grind[xn,xE,mm,mD,ew]
def Rj(ty:Bool)(s:Ty):Bool:=if ty=true then decide (s.err=0)else s.ra
theorem FX{k i:Int}{s:Ty}{d nf e:Nat}{f ty:Bool}{a b c:Nat}(hs:Pf.sig k=some (f,ty,a,b,c)):Pf.node k i s d nf e=true↔((d:Int)=a/\(nf:Int)=b/\(e:Int)=c/\0<=i/\(f=true\/i=0))/\Rj ty s=true:=by
 grind[Pf.node,Rj]
def TG(d:et)(A s:Bool)(n:Nat)(o:Option (Bool×et)):Prop:=(A=true->∃a,o=some (true,a)/\TR d a s n)/\(A=false->∃a,o=some (false,a))
theorem TG.no{d a:et}{A s:Bool}{n:Nat}(h:A=false):TG d A s n (some (false,a)):=⟨λb=>(by rw[h] at b;cases b),λ_=>⟨a,rfl⟩⟩
def Rb(n:Nat)(d:et)(k i:Int)(s:Ty)(ts:List Tm)(fs:List Fm)(l:List Pf):iZ (n+1) d (.mk k i s ts fs l)=(ej (qe k) λe F=>
 if(fW F (fW (uX i 0) true (fW (eW i 0) (fW e.acP (fW (eW (eN ts) e.ek) true (fW (eW (eN fs) e.fj) true (eW (eN l) e.acN))) true) (fW (eW (eN ts) e.ek) true (fW (eW (eN fs) e.fj) true (eW (eN l) e.acN))))) true)=true then(
 some (false,d))
 else(eL (λ(z:et)=>
 hO (fm ts)<|eL (λ(G:Int) (A:Tm)=>(λ(a:et)=>
 ej (k6 A) λg h=>
 ej (iv a g h) λj d179=>
 if j=true then(
 some (.next d179))
 else(some (.ret (false,d179)))):Int->Tm->(et)->(Option (gw (et) (Bool×et)))) λm=>
 cv (fo m ts 0 z) (gm (λ(a:et)=>
 hO (fm fs)<|eL (λ(D:Int) (o:Fm)=>(λ(b:et)=>
 ej (jv o) λp q=>
 ej (iv b p q) λt d322=>
 if t=true then(
 some (.next d322))
 else(some (.ret (false,d322)))):Int->Fm->(et)->(Option (gw (et) (Bool×et)))) λu=>
 cv (fo u fs 0 a) (gm (λ(b:et)=>
 hO (fm l)<|eL (λ(E:Int) (v:Pf)=>(λ(c:et)=>
 ej (iZ n c v) λw f=>
 if w=true then(
 some (.next f))
 else(some (.ret (false,f)))):Int->Pf->(et)->(Option (gw (et) (Bool×et)))) λx=>
 cv (fo x l 0 b) (gm (λ(c:et)=>
 some (true,c)) (λr=>some r))) (λr=>some r))) (λr=>some r))) λy=>
 if e.typed=true then(
 ej (jG s) λH B=>
 if(eW B 0)=true then(
 some (false,(et.mk (fk .i64 d.acO 1) d.iE)))
 else(y (et.mk (fk .i64 d.acO 1) d.iE)))
 else(cv (oO s) λC=>
 if C=true then(
 y (et.mk (fk .i64 d.acO 1) d.iE))
 else(some (false,(et.mk (fk .i64 d.acO 1) d.iE)))))):=by
 rw[iZ];rfl
def Sb:∀(n:Nat) (P:Pf) (d:et),P.wt<=n->P.wt<=1000000000->0<=d.acO->d.acO+P.acO<=4000000000->TG d P.ok P.small P.acO (iZ n d P):=by
 intro n
 induction n with
 |zero=>intro P d h;have:=P.jB;omega
 |succ n Z=>
  intro P d hn hb h0 hd;cases P with
  |mk k i s ts fs l=>
   rw[Pf.fM] at hn hb;rw[Pf.ef] at hd|-;have aa:=iA Tm.wt ts λt _=>t.jB;have ab:=iA Fm.wt fs λt _=>t.jB;have ad:=iA Pf.wt l λt _=>t.jB;have m1:=kP (l:=ts) (λx _=>Tm.iS x);have m2:=kP (l:=fs) (λx _=>Fm.iS x);have m3:=kP (l:=l) (λx _=>Pf.iS x);rw[Pf.ia,Pf.xV,Rb];rcases Ra k with⟨H,r,J⟩|⟨ix,ty,a,b,c,r,H,J,g1,g2,g3,g4,g5⟩
   ·rw[J,eb,xE,ee rfl];exact TG.no (by simp[Pf.node,H])
   ·rw[J,eb,g1,g2,g3,g4,g5,fV,fV,fV]
    by_cases I:(ts.length:Int)=a/\(fs.length:Int)=b/\(l.length:Int)=c/\0<=i/\(ix=true\/i=0)
    ·rw[ea (λh=>G_.1 h I)]
     have p:Pf.node k i s ts.length fs.length l.length=Rj ty s:=by
      rw[CM,FX H];exact⟨λh=>h.2,λh=>⟨I,h⟩⟩
     rw[p];cases f:Rj ty s with
     |false=>
      have e:∀j:et->Option (Bool×et),(if ty=true then ej (jG s) λae K=>if(eW K 0)=true then some (false,(et.mk (fk .i64 d.acO 1) d.iE))else j (et.mk (fk .i64 d.acO 1) d.iE)else cv (oO s) λL=>if L=true then j (et.mk (fk .i64 d.acO 1) d.iE)else some (false,(et.mk (fk .i64 d.acO 1) d.iE)))=some (false,(et.mk (fk .i64 d.acO 1) d.iE)):=by grind[Rj,eW,ew,mf,eb,sG,cl]
      refine qE (λ_=>False) (λ_ h=>h.elim) (λj _=>?_);rw[e j];exact TG.no (by simp)
     |true=>
      refine qE (λd1=>d1.acO=d.acO+1/\d1.iE=d.iE) (λd1 g=>?_) (λj hj=>?_)
      ·have t1:=yB (F:=λ(af:Int) (M:Tm)=>(λ(q:et)=>ej (k6 M) λu v=>ej (iv q u v) λw d179=>if w=true then some (.next d179)else some (.ret (false,d179)))) Tm.ok Q6 Tm.acO ts 0 d1 (by omega) (by omega) (λj x d m q0 q1=>by
        have:=eJ Tm.wt m;have:=x.iS;rw[so (by omega),eb]
        exact GH x.DK (by omega) q0 q1)
       rw[eC (by omega),eo,eA];cases a1:ts.all Tm.ok with
       |false=>
        rw[a1,ea (by decide)] at t1;obtain⟨d2,N⟩:=t1;rw[N,cl,qs];exact TG.no (by simp)
       |true=>
        rw[a1,ee rfl] at t1;obtain⟨d2,N,O⟩:=t1;have u1:=O.lo;have u2:=O.hi;rw[N,cl,en,eC (by omega),eo,eA]
        have t2:=yB (F:=λ(V:Int) (y:Fm)=>(λ(z:et)=>ej (jv y) λA B=>ej (iv z A B) λC d322=>if C=true then some (.next d322)else some (.ret (false,d322)))) Fm.ok Rh Fm.acO fs 0 d2 (by omega) (by omega) (λj x d m q0 q1=>by
         have:=eJ Fm.wt m;have:=x.iS;rw[qo (by omega),eb]
         exact GH x.DK (by omega) q0 q1)
        cases a2:fs.all Fm.ok with
        |false=>
         rw[a2,ea (by decide)] at t2;obtain⟨d3,Q⟩:=t2;rw[Q,cl,qs];exact TG.no (by simp)
        |true=>
         rw[a2,ee rfl] at t2;obtain⟨d3,Q,R⟩:=t2;have u3:=R.lo;have u4:=R.hi;rw[Q,cl,en,eC (by omega),eo,eA]
         have t3:=yB (F:=λ(W:Int) (D:Pf)=>(λ(E:et)=>ej (iZ n E D) λG o=>if G=true then some (.next o)else some (.ret (false,o)))) Pf.ok Pf.small Pf.acO l 0 d3 (by omega) (by omega) (λj x d m q0 q1=>by
          have:=eJ Pf.wt m;have:=eJ Pf.acO m;have:=x.iS;have m:=Z x d (by omega) (by omega) q0 (by omega);cases X:x.ok with
          |true=>
           obtain⟨S,T,w2⟩:=m.1 X;rw[ee rfl,T,eb,ee rfl];exact⟨S,rfl,w2⟩
          |false=>
           obtain⟨S,T⟩:=m.2 X;rw[ea (by decide),T,eb,ea (by decide)]
           exact⟨S,rfl⟩)
         cases a3:l.all Pf.ok with
         |false=>
          rw[a3,ea (by decide)] at t3;obtain⟨d4,U⟩:=t3;rw[U,cl,qs];exact TG.no (by simp)
         |true=>
          rw[a3,ee rfl] at t3;obtain⟨d4,U,r4⟩:=t3;rw[U,cl,en];refine⟨λ_=>⟨d4,rfl,?_⟩,λh=>by simp at h⟩;have r0:TR d d1 true 1:=⟨by omega,by omega,λ_=>by omega,by simp[g.2]⟩;have:=((r0.trans O).trans R).trans r4;rw[AO] at this;exact this
      ·have g:=hj (et.mk (fk .i64 d.acO 1) d.iE) ⟨by show fk .i64 d.acO 1=_;rw[fu (by omega) (by omega)],rfl⟩;unfold Rj at f
       by_cases Y:ty=true
       ·rw[ee Y] at f|-
        have hz:¬eW s.err 0=true:=by rw[ew];simpa using f
        rw[mf (by omega),eb,ea hz];exact g
       ·rw[ea Y] at f|-;rw[sG,cl,f,ee rfl];exact g
    ·rw[ee (G_.2 I)];refine TG.no ?_
     have:Pf.node k i s ts.length fs.length l.length=false:=by
      rw[RH]
      exactλh=>I ((FX H).1 h).1
     rw[this];simp
def HX{P:Pf}(h:P.wt<=1000000000):ug P=some P.err:=by
 have hn:=P.iS;have b:=Sb FU P (et.mk 0 false) (by rw[fC];omega) h (by show(0:Int)<=0;omega) (by show(0:Int)+_<=_;omega);unfold ug rn Pf.err;cases c:P.ok with
 |false=>
  obtain⟨a,e⟩:=b.2 c
  grind[eb]
 |true=>
  obtain⟨a,e,r⟩:=b.1 c;rw[e,eb,ee rfl,ee rfl];have d:a.iE=!P.small:=r.iE;rw[d,mm];cases hs:P.small with
  |false=>grind[eb]|true=>
   have f:a.acO=(0:Int)+P.acO:=r.eq hs
   grind[gW,eb]
def P4(n:Nat)(k i:Int)(s:Ty)(ts:List Tm)(fs:List Fm)(l:List Pf):nO (n+1) (.mk k i s ts fs l)=(ej (pX k) λb v=>
 if(fW v (fW (eW (eN ts) b.ek) true (fW (eW (eN fs) b.fj) true (fW (eW (eN l) b.acN) true (fW (uX i 0) true (fW b.acP false (eW i 0)))))) true)=true then(
 some false)
 else(eL (λ(h:Bool)=>
 if h=true then(
 some false)
 else(hO (fm ts)<|eL (λ(w:Int) (j:Tm)=>(λ(_:Unit)=>
 cv (kC FU j) λm=>
 if m=true then(
 some (.next ()))
 else(some (.ret false))):Int->Tm->(Unit)->(Option (gw (Unit) (Bool)))) λo=>
 cv (fo o ts 0 ()) (gm (λ(_:Unit)=>
 hO (fm fs)<|eL (λ(x:Int) (p:Fm)=>(λ(_:Unit)=>
 cv (lW FU p) λc=>
 if c=true then(
 some (.next ()))
 else(some (.ret false))):Int->Fm->(Unit)->(Option (gw (Unit) (Bool)))) λd=>
 cv (fo d fs 0 ()) (gm (λ(_:Unit)=>
 hO (fm l)<|eL (λ(u:Int) (e:Pf)=>(λ(_:Unit)=>
 cv (nO n e) λf=>
 if f=true then(
 some (.next ()))
 else(some (.ret false))):Int->Pf->(Unit)->(Option (gw (Unit) (Bool)))) λg=>
 cv (fo g l 0 ()) (gm (λ(_:Unit)=>
 some true) (λr=>some r))) (λr=>some r))) (λr=>some r)))) λa=>
 if b.pM=true then(
 cv (jL s) λq=>
 if(eW q 0)=true then(
 a true)
 else(a false))
 else(cv (qg s) λt=>
 a (nB t)))):=by
 rw[nO];rfl
def F6:∀(n:Nat) (P:Pf),P.wt<=n->P.wt<=1000000000->nO n P=some P.ok:=by
 intro n
 induction n with
 |zero=>intro P h;have:=P.jB;omega
 |succ n u=>
  intro P hn w;cases P with
  |mk k i s ts fs l=>
   rw[Pf.fM] at hn w;have y:=iA Tm.wt ts λt _=>t.jB;have z:=iA Fm.wt fs λt _=>t.jB;have A:=iA Pf.wt l λt _=>t.jB;rw[Pf.ia,P4];rcases OD k with⟨m,r,p⟩|⟨B,ty,a,b,c,r,m,p,g1,g2,g3,g4,g5⟩
   ·rw[p,eb,xE,ee rfl];simp[Pf.node,m]
   ·rw[p,eb,g1,g2,g3,g4,g5,fV,fV,fV]
    by_cases q:(ts.length:Int)=a/\(fs.length:Int)=b/\(l.length:Int)=c/\0<=i/\(B=true\/i=0)
    ·rw[ea (λh=>HP.1 h q)]
     have e:Pf.node k i s ts.length fs.length l.length=Rj ty s:=by
      rw[CM,FX m];exact⟨λh=>h.2,λh=>⟨q,h⟩⟩
     rw[e];refine qE (G:=λo=>o=some (Rj ty s&&ts.all Tm.ok&&fs.all Fm.ok&&l.all Pf.ok)) (λv=>v=!Rj ty s) (λv C=>?_) (λj D=>?_)
     ·rw[C];cases Rj ty s with
      |false=>rfl|true=>
       rw[ea (by decide),eC (by omega),eo,eA,rm Tm.ok false ts 0 (λj x g=>by
        have:=eJ Tm.wt g
        rw[yx (by omega),cl]),AO]
       cases ts.all Tm.ok with
       |false=>rfl|true=>
        rw[ee rfl,cl,en,eC (by omega),eo,eA,rm Fm.ok false fs 0 (λj x g=>by
         have:=eJ Fm.wt g
         rw[Ac FU x (by rw[fC];omega) (by omega),cl]),AO]
        cases fs.all Fm.ok with
        |false=>rfl|true=>
         rw[ee rfl,cl,en,eC (by omega),eo,eA,rm Pf.ok false l 0 (λj x g=>by
          have:=eJ Pf.wt g
          rw[u x (by omega) (by omega),cl]),AO]
         cases l.all Pf.ok with
         |false=>rfl|true=>rfl
     ·have d:=D (!Rj ty s) rfl;unfold Rj at d|-
      by_cases f:ty=true
      ·rw[ee f] at d;rw[ee f,ee f,m8 (by omega),cl]
       grind[eW,ew]
      ·rw[ea f] at d;rw[ea f,ea f,xd,cl,O2];exact d
    ·rw[ee (HP.2 q)]
     grind[Pf.node,FX]
def zV:∀(n:Nat) (P:Pf),P.wt<=n->P.wt<=1000000000->qt n P=some P.small:=by
 intro n
 induction n with
 |zero=>intro P h;have:=P.jB;omega
 |succ n b=>
  intro P hn c;cases P with
  |mk k i s ts fs l=>
   rw[Pf.fM] at hn c;have d:=iA Tm.wt ts λt _=>t.jB;have e:=iA Fm.wt fs λt _=>t.jB;have f:=iA Pf.wt l λt _=>t.jB;rw[Pf.xV,qt];simp only[Pf.hY,Pf.zv,Pf.eF,eA]
   rw[eC (by omega),eo,rm Q6 false ts 0 (λj x a=>by
    have:=eJ Tm.wt a;have:=x.iS;rw[oy FU x (by rw[fC];omega) (by omega),cl]
    by_cases hs:x.acO<=4096
    ·grind[gW,Q6]
    ·rw[ee (by rw[gW];omega),ea (by simpa[Q6] using hs)])]
   cases ts.all Q6 with
   |false=>rfl|true=>
    rw[ee rfl,cl,en,eC (by omega),eo,rm Rh false fs 0 (λj x a=>by
     have:=eJ Fm.wt a;have:=x.iS;rw[sl FU x (by rw[fC];omega) (by omega),cl]
     by_cases hs:x.acO<=4096
     ·rw[ea (by rw[gW];omega),ee (show Rh x=true from wh hs)]
     ·rw[ee (by rw[gW];omega),ea (by simpa[Rh] using hs)]),AO]
    cases fs.all Rh with
    |false=>rfl|true=>
     rw[ee rfl,cl,en,eC (by omega),eo,rm Pf.small false l 0 (λj x a=>by
      have:=eJ Pf.wt a
      rw[b x (by omega) (by omega),cl]),AO]
     cases l.all Pf.small with
     |false=>rfl|true=>rfl
theorem zI:∀(n:Nat) (P:Pf),P.wt<=n->P.wt<=1000000000->qw n P=some (P.acO:Int):=by
 intro n
 induction n with
 |zero=>intro P h;have:=P.jB;omega
 |succ n b=>
  intro P hn c;cases P with
  |mk k i s ts fs l=>
   rw[Pf.fM] at hn c;have d:=iA Tm.wt ts λt _=>t.jB;have e:=iA Fm.wt fs λt _=>t.jB;have f:=iA Pf.wt l λt _=>t.jB;have g:=kP (l:=ts) (λx _=>Tm.iS x);have m:=kP (l:=fs) (λx _=>Fm.iS x);have o:=kP (l:=l) (λx _=>Pf.iS x);rw[Pf.ef,qw];simp only[Pf.hY,Pf.zv,Pf.eF,eA]
   rw[eC (by omega),eo,show(1:Int)=((1:Nat):Int)from rfl,p0 Tm.acO ts 0 1 (by omega) (λj x v a=>by
    have:=eJ Tm.wt a;have:=x.iS
    rw[oy FU x (by rw[fC];omega) (by omega),cl]),cl,en,eC (by omega),eo,p0 Fm.acO fs 0 _ (by omega) (λj x v a=>by
    have:=eJ Fm.wt a;have:=x.iS
    rw[sl FU x (by rw[fC];omega) (by omega),cl]),cl,en,eC (by omega),eo,p0 Pf.acO l 0 _ (by omega) (λj x v a=>by
    have:=eJ Pf.wt a
    rw[b x (by omega) (by omega),cl]),cl,en]
def y_{P:Pf}(h:P.wt<=1000000000):rH P=some P.err:=by
 unfold rH s7 Pf.err;rw[F6 FU P (by rw[fC];omega) h,cl];cases P.ok with
 |false=>rfl|true=>
  rw[ee rfl,ee rfl,eA,zV FU P (by rw[fC];omega) h,cl];cases P.small with
  |false=>rfl|true=>grind[zI,FU,fC,cl,Dh]
def Pf.VM{P:Pf}(h:P.err=0):ze P/\P.acO<=16384:=by
 unfold Pf.err at h;cases b:P.ok with
 |false=>grind|true=>
  by_cases a:P.small=true/\P.acO<=16384
  ·exact⟨P.w b a.1,a.2⟩
  ·grind
end Go.gV
