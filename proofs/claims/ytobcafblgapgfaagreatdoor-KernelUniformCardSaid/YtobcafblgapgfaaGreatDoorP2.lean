/- Part of the proof of KernelUniform: plain facts. -/
import Derived.Test.YtobcafblgapgfaaGreatDoorP1
set_option linter.all false
namespace Go.hJ
open Go
def yJ(g:List Ty)(s:Ty):g.map s9++[s9 s]=(g++[s]).map s9:=by simp
def CQ:∀(n:Nat) (t:Tm),t.abc<=n->t.ok=true->∀g,kf g->g.length+t.abc<=1000000->eY n (g.map s9) t=some (H6 (t.ty g)):=by
 intro n
 induction n with
 |zero=>intro t h;have:=t.eQ;omega
 |succ n l=>
  intro t hn B
  have one:∀{a:Tm} {g:List Ty} {ts:List Ty},a.ok=true->kf g->Tm.ud [a] g=.inl ts->∃x,ts=[x]/\x.err=0:=by
   intro a g ts j hg h;rcases B2 j hg with⟨e,_,o⟩|⟨x,o,f⟩<;>rw[h] at o<;>cases o;exact⟨x,rfl,f⟩
  have two:∀{a b:Tm} {g:List Ty} {ts:List Ty},a.ok=true->b.ok=true->kf g->Tm.ud [a,b] g=.inl ts->∃x y,ts=[x,y]/\x.err=0/\y.err=0:=by
   intro a b g ts j k hg h;rcases BR j k hg with⟨e,_,o⟩|⟨x,y,o,f,hy⟩<;>rw[h] at o<;>cases o;exact⟨x,y,rfl,f,hy⟩
  have three:∀{a b c:Tm} {g:List Ty} {ts:List Ty},a.ok=true->b.ok=true->c.ok=true->kf g->Tm.ud [a,b,c] g=.inl ts->∃x y z,ts=[x,y,z]/\x.err=0/\y.err=0/\z.err=0:=by
   intro a b c g ts j k m hg h;rcases Bm j k m hg with⟨e,_,o⟩|⟨x,y,z,o,f,hy,u⟩<;>rw[h] at o<;>cases o;exact⟨x,y,z,rfl,f,hy,u⟩
  refine Tm.pc (p:=λt=>t.abc<=n+1->∀g,kf g->g.length+t.abc<=1000000->eY (n+1) (g.map s9) t=some (H6 (t.ty g))) ?_ ?_ ?_ ?_ ?_ ?_ ?_ ?_ ?_ ?_ ?_ ?_ ?_ t B hn
  ·intro i _ g hg k;rw[Tm.ef] at k;rw[eY,ee (by rfl),Tm.nJ,ee rfl];simp only[Tm.gy,fO,F8]
   by_cases hi:(i:Int)<(g.length:Int)
   ·rw[ea (by simp only[jk];omega),ee hi];rw[fG (a:=(g.length:Int)) (by omega) (by omega),fG (by omega) (by omega)]
    have v:g.length-1-i<g.length:=by omega
    have:eI (g.map s9) ((g.length:Int)-1-(i:Int))=some (s9 g[g.length-1-i]):=by
     unfold eI;rw[ee (by omega),show((g.length:Int)-1-(i:Int)).toNat=g.length-1-i by omega,ur,pW v];rfl
    rw[this];simp only[cl,As];rw[Q7,pW v];exact congrArg some (p4 _).symm
   ·rw[ee (by simp only[jk];omega),ea hi,me (by decide)];rfl
  ·intro s b hs k hn g hg d;rw[Tm.ef] at hn d;simp only[eC] at hn d;rw[eY,ea (by simp),ee (by rfl),Tm.nJ,ea (by decide),ee rfl,Tm.Zd];simp only[Tm.fv,Tm.eG,lC hs,eU,js,cl,gG];rw[fl (by simp;omega),eo,yJ,l b (by omega) k (g++[s]) (hg.app hs) (by simp;omega)];have A:=λh=>(q7 _ b (jh _) k (g++[s]) (hg.app hs) (b.ty (g++[s])).1 (wU h)).2;generalize b.ty (g++[s])=q at A;obtain⟨r,e⟩:=q;simp only[LJ]
   by_cases w:e=0
   ·subst w;have C:r.err=0:=A rfl;have D:=fD hs;have E:=fD C;rw[p4,eb,ea (by decide),ea (by simp),yA 4 (by omega) (by omega)]
    by_cases m:64<1+s.abc+r.abc
    ·rw[ee m,ee m,me (by decide)];rfl
    ·rw[ea m,ea m,p4];rfl
   ·rw[me w,eb,ee (by simpa[eW] using w),ee w,me w];rfl
  ·intro a b j k hn g hg d;rw[Tm.ef] at hn d;simp only[eC] at hn d;refine lO (by decide) (by decide) (by simp) (by intro x f;simp at f;rcases f with rfl|rfl<;>first|exact l _ (by omega) j g hg (by omega)|exact l _ (by omega) k g hg (by omega)) (λts h=>?_);obtain⟨x,y,rfl,f,hy⟩:=two j k hg h;exact RL f hy
  ·intro hn g hg d;exact lO (by decide) (by decide) (by simp) (by simp) (λts h=>by rw[Tm.ud] at h;cases h;exact OL)
  ·intro a j hn g hg d;rw[Tm.ef] at hn d;simp only[eC] at hn d;refine lO (by decide) (by decide) (by simp) (by intro x f;simp at f;subst f;exact l _ (by omega) j g hg (by omega)) (λts h=>?_);obtain⟨x,rfl,f⟩:=one j hg h;exact Py f
  ·intro s a b c hs j k m hn g hg d;rw[Tm.ef] at hn d;simp only[eC] at hn d;refine lO (by decide) (by decide) (by simp) (by intro x f;simp at f;rcases f with rfl|rfl|rfl<;>first|exact l _ (by omega) j g hg (by omega)|exact l _ (by omega) k g hg (by omega)|exact l _ (by omega) m g hg (by omega)) (λts h=>?_);obtain⟨x,y,z,rfl,f,hy,u⟩:=three j k m hg h;exact Rf hs f hy u
  ·intro hn g hg d;exact lO (by decide) (by decide) (by simp) (by simp) (λts h=>by rw[Tm.ud] at h;cases h;exact Sk)
  ·intro a b j k hn g hg d;rw[Tm.ef] at hn d;simp only[eC] at hn d;refine lO (by decide) (by decide) (by simp) (by intro x f;simp at f;rcases f with rfl|rfl<;>first|exact l _ (by omega) j g hg (by omega)|exact l _ (by omega) k g hg (by omega)) (λts h=>?_);obtain⟨x,y,rfl,f,hy⟩:=two j k hg h;exact O5 f hy
  ·intro s a b c hs j k m hn g hg d;rw[Tm.ef] at hn d;simp only[eC] at hn d;refine lO (by decide) (by decide) (by simp) (by intro x f;simp at f;rcases f with rfl|rfl|rfl<;>first|exact l _ (by omega) j g hg (by omega)|exact l _ (by omega) k g hg (by omega)|exact l _ (by omega) m g hg (by omega)) (λts h=>?_);obtain⟨x,y,z,rfl,f,hy,u⟩:=three j k m hg h;exact Pm hs f hy u
  ·intro a b j k hn g hg d;rw[Tm.ef] at hn d;simp only[eC] at hn d;refine lO (by decide) (by decide) (by simp) (by intro x f;simp at f;rcases f with rfl|rfl<;>first|exact l _ (by omega) j g hg (by omega)|exact l _ (by omega) k g hg (by omega)) (λts h=>?_);obtain⟨x,y,rfl,f,hy⟩:=two j k hg h;exact PB f hy
  ·intro a j hn g hg d;rw[Tm.ef] at hn d;simp only[eC] at hn d;refine lO (by decide) (by decide) (by simp) (by intro x f;simp at f;subst f;exact l _ (by omega) j g hg (by omega)) (λts h=>?_);obtain⟨x,rfl,f⟩:=one j hg h;exact Sj f
  ·intro a j hn g hg d;rw[Tm.ef] at hn d;simp only[eC] at hn d;refine lO (by decide) (by decide) (by simp) (by intro x f;simp at f;subst f;exact l _ (by omega) j g hg (by omega)) (λts h=>?_);obtain⟨x,rfl,f⟩:=one j hg h;exact QG f
  ·intro hn g hg d;exact lO (by decide) (by decide) (by simp) (by simp) (λts h=>by rw[Tm.ud] at h;cases h;exact Pz)
def wN{t:Tm}{g:List Ty}(a:t.ok=true)(hg:kf g)(b:g.length+t.abc<=1000000):eY FU (g.map s9) t=some (H6 (t.ty g)):=
 CQ FU t (by have:=fy;omega) a g hg b
noncomputable def pH (t:Tm) (g:List Ty) (k:Int):Int:=if(t.ty g).2=0/\(t.ty g).1.aba≠k then 7 else(t.ty g).2
def AA{t:Tm}{g:List Ty}(k:Int)(c:t.ok=true)(hg:kf g)(d:g.length+t.abc<=1000000):iR (g.map s9) t k=some (pH t g k):=by
 unfold iR pH;rw[wN c hg d];generalize t.ty g=q;obtain⟨r,e⟩:=q
 by_cases a:e=0
 ·subst a;rw[p4,eb];simp only[ey];rw[ee (by rfl),En,cl,Ej]
  by_cases b:r.aba=k
  ·rw[vF b,ea (by decide),ea (λh=>h.2 b)]
  ·rw[Dw b,ee (by decide),ee ⟨trivial,b⟩]
 ·rw[me a,eb];simp only[ey];rw[ea (by simpa[eH] using a),ea (by decide),ea (λh=>a h.1)]
def wJ{t:Tm}{g:List Ty}(a:t.ok=true)(hg:kf g)(b:g.length+t.abc<=1000000):iH (g.map s9) t=some (pH t g 1):=by
 unfold iH;rw[AA 1 a hg b];rfl
mutual
noncomputable def Fm.vE:Fm->List Ty->Int
 |.mk k s ts l,g=>if hE (ts.map λt=>pH t g 1)=0 then Fm.R6 l (if kR k=true then g++[s] else g)else hE (ts.map λt=>pH t g 1)
noncomputable def Fm.R6:List Fm->List Ty->Int
 |[],_=>0|f::l,g=>if f.vE g=0 then Fm.R6 l g else f.vE g
end
def Fm.Oe(g:List Ty):∀l:List Fm,Fm.R6 l g=hE (l.map λf=>f.vE g)
 |[]=>by rw[Fm.R6];rfl|f::l=>by rw[Fm.R6,Fm.Oe g l];rfl
def Fm.tV(k:Int)(s:Ty)(ts:List Tm)(l:List Fm)(g:List Ty):(Fm.mk k s ts l).vE g=if hE (ts.map λt=>pH t g 1)=0 then hE (l.map λf=>f.vE (if kR k=true then g++[s] else g))else hE (ts.map λt=>pH t g 1):=by
 rw[Fm.vE,Fm.Oe]
def yP{t:Tm}{g:List Ty}(a:t.ok=true)(hn:t.abc<=4096)(hg:kf g)(b:g.length<=900000):qn g t=some (t.ty g):=by
 unfold qn;have hw:=t.jx a;rw[mQ (by omega)]
 have he:t.err=0:=by unfold Tm.err;rw[ee a,ea (by omega)]
 rw[he];simp only[cl];rw[ea (by decide),yU FU t (by have:=fy;omega) a g hg (by omega)];rfl
def IA{t:Tm}{g:List Ty}(f:t.ok=true)(hn:t.abc<=4096)(hg:kf g)(i:g.length<=900000):(ei (qn g t) λd a=>if(eW a 0)=true then(some (.ret a))else(if(eW d.aba 1)=true then(some (.ret 7))else(some (.next ()))):Option (gu Unit Int))=
   if pH t g 1≠0 then some (.ret (pH t g 1))else some (.next ()):=by
 rw[yP f hn hg i];unfold pH;generalize t.ty g=q;obtain⟨r,e⟩:=q;simp only[eb,eA]
 by_cases b:e=0
 ·subst b
  by_cases c:r.aba=1
  ·rw[ea (by simp),ea (by simp[c]),ea (show¬((0:Int)=0/\r.aba≠1)fromλh=>h.2 c),ea (by simp)]
  ·rw[ea (by simp),ee c,ee (show(0:Int)=0/\r.aba≠1 from⟨rfl,c⟩),ee (by decide)]
 ·rw[ee b,ea (show¬(e=0/\r.aba≠1)fromλh=>b h.1),ee b]
def sR{e:Int}:(cv (some e) λa=>if(eW a 0)=true then(some (.ret a))else(some (.next ())):Option (gu Unit Int))=if e≠0 then some (.ret e)else some (.next ()):=by
 rw[cl]
 by_cases h:e=0
 ·subst h;rfl
 ·rw[ee (by simpa[eW] using h),ee h]
def ve{l:List Int}{k:Unit⊕Int->Option Int}(h:k=gm (λ_=>some 0) (λr=>some r)):cv (if hE l=0 then some (.inl ())else some (.inr (hE l))) k=some (hE l):=by
 subst h
 by_cases h:hE l=0
 ·rw[ee h,h];rfl
 ·rw[ea h];rfl
def zy(f:Fm)(v:f.ok=true):∀n,f.abc<=n->∀g,kf g->g.length+f.abc<=900000->f.abc<=4096->mC n g f=some (f.vE g):=by
 refine Fm.pc (p:=λf=>∀n,f.abc<=n->∀g,kf g->g.length+f.abc<=900000->f.abc<=4096->mC n g f=some (f.vE g)) ?_ ?_ ?_ f v
 ·intro a b l u n hn g hg c d;rw[Fm.ef] at hn c d;simp only[eC] at hn c d;obtain⟨n,rfl⟩:∃m,n=m+1:=⟨n-1,by omega⟩;rw[mC,Fm.tV];simp only[ey,Fm.hU,Fm.eG,Fm.eN,ml,cl]
  rw[eE (by simp),eo,lj (λt=>pH t g 1) [a,b] 0 (λj x e=>by
   simp only[lF,PI,sN] at e;rcases e with rfl|rfl
   ·exact IA l (by omega) hg (by omega)
   ·exact IA u (by omega) hg (by omega))]
  rw[show kR 1=false from rfl]
  by_cases h:hE ([a,b].map λt=>pH t g 1)=0
  ·rw[ee h,ee h];rfl
  ·rw[ea h,ea h];rfl
 ·intro k a b o l u i q n hn g hg c d;rw[Fm.ef] at hn c d;simp only[eC] at hn c d;obtain⟨n,rfl⟩:∃m,n=m+1:=⟨n-1,by omega⟩
  have r:kR k=false:=by rcases o with rfl|rfl<;>rfl
  rw[mC,Fm.tV];simp only[ey,Fm.hU,Fm.eG,Fm.eN,ml,cl,r,LW,hE]
  rw[eE (by simp),eo,pe,cl,en,ea (by decide),ee trivial,eE (by simp),eo,lj (λf=>f.vE g) [a,b] 0 (λj x e=>by
   simp only[lF,PI,sN] at e;rcases e with rfl|rfl
   ·rw[i n (by omega) g hg (by omega) (by omega)];exact sR
   ·rw[q n (by omega) g hg (by omega) (by omega)];exact sR)]
  exact ve rfl
 ·intro k s a o hs l i n hn g hg c d;rw[Fm.ef] at hn c d;simp only[eC] at hn c d;obtain⟨n,rfl⟩:∃m,n=m+1:=⟨n-1,by omega⟩
  have r:kR k=true:=by rcases o with rfl|rfl|rfl|rfl<;>rfl
  rw[mC,Fm.tV];simp only[ey,Fm.hU,Fm.eG,Fm.eN,Fm.fv,ml,cl,r,LW,hE];rw[eE (by simp),eo,pe,cl,en];simp only[if_true]
  rw[fl (by simp;omega),eo,gG,eE (by simp),eo,lj (λf=>f.vE (g++[s])) [a] 0 (λj x e=>by
   simp only[lF,PI,sN] at e;subst e
   rw[i n (by omega) (g++[s]) (hg.app hs) (by simp;omega) (by omega)];exact sR)]
  exact ve rfl
def se{g:List Ty}{s:Ty}(hs:s.err=0)(a:g.length<=900000):gH (g.map s9) [s]=some ((g++[s]).map s9):=by
 unfold gH oC;simp only[ey];rw[eE (by simp),eo,fm,lC hs];simp only[cl];rw[fl (by simp),eo];simp only[cl,fA,pe,en,gG,oh];rw[fl (by simp;omega),eo,yJ]
def Ec{t:Tm}{g:List Ty}(b:t.ok=true)(hn:t.abc<=4096)(hg:kf g)(c:g.length<=900000):(cv (iH (g.map s9) t) λa=>if(eW a 0)=true then(some (.ret a))else(some (.next ())):Option (gu Unit Int))=if pH t g 1≠0 then some (.ret (pH t g 1))else some (.next ()):=by
 rw[wJ b hg (by omega)];exact sR
def vY(f:Fm)(A:f.ok=true):∀n,f.abc<=n->∀g,kf g->g.length+f.abc<=900000->f.abc<=4096->eX n (g.map s9) f=some (f.vE g):=by
 refine Fm.pc (p:=λf=>∀n,f.abc<=n->∀g,kf g->g.length+f.abc<=900000->f.abc<=4096->eX n (g.map s9) f=some (f.vE g)) ?_ ?_ ?_ f A
 ·intro a b u y n hn g hg c d;rw[Fm.ef] at hn c d;simp only[eC] at hn c d;obtain⟨n,rfl⟩:∃m,n=m+1:=⟨n-1,by omega⟩;rw[eX,Fm.tV];simp only[ey,Fm.hU,Fm.eG]
  rw[ea (by simp),ea (by simp),ea (by simp),eE (by simp),eo,lj (λt=>pH t g 1) [a,b] 0 (λj x e=>by
   simp only[lF,PI,sN] at e;rcases e with rfl|rfl
   ·exact Ec u (by omega) hg (by omega)
   ·exact Ec y (by omega) hg (by omega))]
  rw[ve rfl]
  by_cases h:hE ([a,b].map λt=>pH t g 1)=0
  ·rw[ee h,h];rfl
  ·rw[ea h]
 ·intro k a b l u y o v n hn g hg c d;rw[Fm.ef] at hn c d;simp only[eC] at hn c d;obtain⟨n,rfl⟩:∃m,n=m+1:=⟨n-1,by omega⟩
  have w:kR k=false:=by rcases l with rfl|rfl<;>rfl
  have B:fU (eH k 4) true (eH k 5)=false:=by rcases l with rfl|rfl<;>rfl
  have k2:fU (eH k 6) true (eH k 7)=false:=by rcases l with rfl|rfl<;>rfl
  have C:fU (eH k 2) true (eH k 3)=true:=by rcases l with rfl|rfl<;>rfl
  rw[eX,Fm.tV];simp only[ey,Fm.hU,Fm.eG,w,LW,hE];rw[ea (by simp only[Fm.eN,B];decide),ea (by simp only[Fm.eN,k2];decide),ee (by simp only[Fm.eN,C])];simp only[if_true,tp,pE]
  rw[eE (by simp),eo,lj (λf=>f.vE g) [a,b] 0 (λj x e=>by
   simp only[lF,PI,sN] at e;rcases e with rfl|rfl
   ·rw[o n (by omega) g hg (by omega) (by omega)];exact sR
   ·rw[v n (by omega) g hg (by omega) (by omega)];exact sR)]
  exact ve rfl
 ·intro k s a l hs u o n hn g hg c d;rw[Fm.ef] at hn c d;simp only[eC] at hn c d;obtain⟨n,rfl⟩:∃m,n=m+1:=⟨n-1,by omega⟩
  have w:kR k=true:=by rcases l with rfl|rfl|rfl|rfl<;>rfl
  rw[eX,Fm.tV];simp only[ey,Fm.hU,Fm.eG,Fm.fv,w,LW,hE,se hs (show g.length<=900000 by omega),cl,if_true]
  have fin:(g_ (fo [a])<|cv (ft (λ(z:Int) (q:Fm)=>(λ(_:Unit)=>
    cv (eX n ((g++[s]).map s9) q) λi=>
    if(eW i 0)=true then(
    some (.ret i))
    else(some (.next ()))):Int->Fm->(Unit)->(Option (gu (Unit) (Int)))) [a] 0 ()) (gm (λ(_:Unit)=>some 0) (λr=>some r)))=some (hE ([a].map λf=>f.vE (g++[s]))):=by
   rw[eE (by simp),eo,lj (λf=>f.vE (g++[s])) [a] 0 (λj x e=>by
    simp only[lF,PI,sN] at e;subst e
    rw[o n (by omega) (g++[s]) (hg.app hs) (by simp;omega) (by omega)];exact sR)]
   exact ve rfl
  rcases l with rfl|rfl|rfl|rfl
  ·rw[ee (by simp)];exact fin
  ·rw[ee (by simp)];exact fin
  ·rw[ea (by simp),ee (by simp)];exact fin
  ·rw[ea (by simp),ee (by simp)];exact fin
mutual
def Fm.up(f b:Int):Fm->Fm
 |.mk k s ts l=>.mk k s (ts.map (Tm.up f b)) (Fm.Ta (f+qB k) b l)
def Fm.Ta(f b:Int):List Fm->List Fm
 |[]=>[]|t::l=>t.up f b::Fm.Ta f b l
end
def Fm.NM(f b:Int)(l:List Fm):Fm.Ta f b l=l.map (Fm.up f b):=by
 induction l with
 |nil=>rfl|cons t l a=>simp[Fm.Ta,a]
def Fm.l0(f b k:Int)(s:Ty)(ts:List Tm)(l:List Fm):(Fm.mk k s ts l).up f b=.mk k s (ts.map (Tm.up f b)) (l.map (Fm.up (f+qB k) b)):=by rw[Fm.up,Fm.NM]
mutual
def Fm.abg(m:Int):Fm->Bool
 |.mk _ _ ts l=>ts.all (Tm.abg m)&&Fm.xO m l
def Fm.xO(m:Int):List Fm->Bool
 |[]=>true|t::l=>t.abg m&&Fm.xO m l
end
def Fm.CU(m:Int)(l:List Fm):Fm.xO m l=l.all (Fm.abg m):=by
 induction l with
 |nil=>rfl|cons t l a=>simp[Fm.xO,a]
def Fm.fT(m k:Int)(s:Ty)(ts:List Tm)(l:List Fm):(Fm.mk k s ts l).abg m=(ts.all (Tm.abg m)&&l.all (Fm.abg m)):=by rw[Fm.abg,Fm.CU]
mutual
def Fm.abi(a:Int):Fm->Nat
 |.mk k _ ts l=>eC (Tm.abi a) ts+Fm.xN (a+qB k) l
def Fm.xN(a:Int):List Fm->Nat
 |[]=>0|t::l=>t.abi a+Fm.xN a l
end
def Fm.Ds(a:Int)(l:List Fm):Fm.xN a l=eC (Fm.abi a) l:=by
 induction l with
 |nil=>rfl|cons t l b=>simp[Fm.xN,eC,b]
def Fm.gU(a k:Int)(s:Ty)(ts:List Tm)(l:List Fm):(Fm.mk k s ts l).abi a=eC (Tm.abi a) ts+eC (Fm.abi (a+qB k)) l:=by rw[Fm.abi,Fm.Ds]
mutual
def Fm.m7:Int->Fm->Tm->Fm
 |n,.mk k ty ts l,s=>.mk k ty (ts.map λx=>Tm.m7 n x s) (Fm.JS (n+qB k) l s)
def Fm.JS:Int->List Fm->Tm->List Fm
 |_,[],_=>[]|n,t::l,s=>Fm.m7 n t s::Fm.JS n l s
end
def Fm.Kv(n:Int)(s:Tm)(l:List Fm):Fm.JS n l s=l.map (λx=>Fm.m7 n x s):=by
 induction l with
 |nil=>rfl|cons t l a=>simp[Fm.JS,a]
def Fm.nU(n:Int)(s:Tm)(k:Int)(ty:Ty)(ts:List Tm)(l:List Fm):Fm.m7 n (Fm.mk k ty ts l) s=.mk k ty (ts.map λx=>Tm.m7 n x s) (l.map λx=>Fm.m7 (n+qB k) x s):=by rw[Fm.m7,Fm.Kv]
def Fm.iZ(t:Fm):∀a,t.abi a<=t.abc:=by
 induction t using Fm.ind with
 |h k s ts l b=>
  intro a;rw[Fm.gU,Fm.ef];have:=kJ (f:=Fm.abi (a+qB k)) (g:=Fm.abc) (l:=l) λx c=>b x c _;have:=kJ (f:=Tm.abi a) (g:=Tm.abc) (l:=ts) λx _=>x.iZ _;omega
def Fm.qV(t:Fm):∀f b,(t.up f b).abc=t.abc:=by
 induction t using Fm.ind with
 |h k s ts l a=>
  intro f b;rw[Fm.l0,Fm.ef,Fm.ef,qm,qm,ri λx c=>a x c _ _,ri λx _=>Tm.qV x f b]
def Fm.G4(t:Fm):∀f b,(t.up f b).wt=t.wt:=by
 induction t using Fm.ind with
 |h k s ts l a=>
  intro f b;rw[Fm.l0,Fm.fI,Fm.fI,qm,qm,ri λx c=>a x c _ _,ri λx _=>Tm.G4 x f b]
def Fm.Je(t:Fm):∀f b,0<=f->0<=b->(t.up f b).ok=t.ok:=by
 induction t using Fm.ind with
 |h k s ts l c=>
  intro f b d a;have:=BU k;rw[Fm.l0,Fm.hY,Fm.hY,F8,F8,wk λx e=>c x e (f+qB k) b (by omega) a,wk λx _=>Tm.Je x f b d a]
def LB{α:Type}{a b c:α->Nat}{m:Nat}{l:List α}(h:∀x∈l,a x+b x=c x+b x*m):eC a l+eC b l=eC c l+eC b l*m:=by
 induction l with
 |nil=>simp[eC]|cons y l d=>
  have f:=h y (by simp);have g:=d λx e=>h x (by simp[e]);simp only[eC,Au];omega
def Fm.rP(s:Tm)(t:Fm):∀n,t.ok=true->(Fm.m7 n t s).abc+t.abi n=t.abc+t.abi n*s.abc:=by
 induction t using Fm.ind with
 |h k ty ts l f=>
  intro n d;rw[Fm.hY] at d;simp only[gL,k4] at d;rw[Fm.nU,Fm.gU,Fm.ef,Fm.ef,qm,qm,Au];have g:=LB (l:=ts) (a:=λx=>(Tm.m7 n x s).abc) (b:=Tm.abi n) (c:=Tm.abc) (m:=s.abc) λx e=>Tm.rP s x n (d.1.2 x e);have i:=LB (l:=l) (a:=λx=>(Fm.m7 (n+qB k) x s).abc) (b:=Fm.abi (n+qB k)) (c:=Fm.abc) (m:=s.abc) λx e=>f x e _ (d.2 x e);omega
def Fm.RB{g:Fm->Fm}{k:Int}{s:Ty}{ts us:List Tm}{l:List Fm}(h:∀x∈l,(g x).has=x.has):(Fm.mk k s us (l.map g)).has=(Fm.mk k s ts l).has:=by
 rw[Fm.has,Fm.has]
 have b:Fm.Bf (l.map g)=Fm.Bf l:=by
  induction l with
  |nil=>rfl|cons x l a=>simp only[zf,Fm.Bf,h x (by simp),a λy hy=>h y (by simp[hy])]
 have c:Fm.vJ (l.map g)=Fm.vJ l:=by
  clear b
  induction l with
  |nil=>rfl|cons x l a=>
   cases l with
   |nil=>simp[Fm.vJ,h x (by simp)]|cons y l=>simpa[Fm.vJ] using a λz d=>h z (by simp[d])
 rw[b,c]
def Fm.SI{g:Fm->Fm}{k:Int}{s:Ty}{ts us:List Tm}{l:List Fm}(h:∀x∈l,(g x).ct=x.ct):(Fm.mk k s us (l.map g)).ct=(Fm.mk k s ts l).ct:=by
 rw[Fm.ct,Fm.ct]
 have a:Fm.Ox (l.map g)=Fm.Ox l:=by cases l with|nil=>rfl|cons x l=>simp[Fm.Ox,h x (by simp)]
 have b:Fm.IX (l.map g)=Fm.IX l:=by
  clear a
  induction l with
  |nil=>rfl|cons x l c=>
   cases l with
   |nil=>simp[Fm.IX,h x (by simp)]|cons y l=>simpa[Fm.IX] using c λz d=>h z (by simp[d])
 rw[a,b]
def Fm.UZ(s:Tm)(t:Fm):∀n,(Fm.m7 n t s).ct=t.ct/\(Fm.m7 n t s).has=t.has:=by
 induction t using Fm.ind with
 |h k ty ts l b=>
  intro n;rw[Fm.nU];exact⟨Fm.SI (g:=λx=>Fm.m7 (n+qB k) x s) λx a=>(b x a _).1,Fm.RB (g:=λx=>Fm.m7 (n+qB k) x s) λx a=>(b x a _).2⟩
def B5{t:Tm}(m:Int)(h:t.abc<=1000000000):kZ FU t m=some (t.abg m):=zE FU t m (by rw[fy];exact h) h
def FZ:∀(n:Nat) (t:Fm) (m:Int),t.abc<=n->t.abc<=1000000000->oJ n t m=some (t.abg m):=by
 intro n
 induction n with
 |zero=>intro t m h;have:=t.eQ;omega
 |succ n c=>
  intro t m h d;cases t with
  |mk k s ts l=>
   rw[Fm.ef] at h d;have g:=Fm.fQ l;have e:=Tm.fQ ts
   have f:ft (ρ:=Bool) (λ(_:Int) (x:Tm) (_:Unit)=>cv (kZ FU x m) λa=>if a=true then some (gu.next ())else some (gu.ret false)) ts 0 ()=if ts.all (Tm.abg m)=true then some (.inl ())else some (.inr false):=by
    refine q9 (Tm.abg m) _ ts 0 ?_;intro j x b;have:=eL Tm.abc b;rw[B5 m (by omega)];rfl
   have k2:ft (ρ:=Bool) (λ(_:Int) (x:Fm) (_:Unit)=>cv (oJ n x m) λa=>if a=true then some (gu.next ())else some (gu.ret false)) l 0 ()=if l.all (Fm.abg m)=true then some (.inl ())else some (.inr false):=by
    refine q9 (Fm.abg m) _ l 0 ?_;intro j x b;have:=eL Fm.abc b;rw[c x m (by omega) (by omega)];rfl
   rw[oJ];simp only[Fm.eG,Fm.hU,ey,eE (l:=l) (by omega),eE (l:=ts) (by omega),eo,f,k2,Fm.fT];cases i:ts.all (Tm.abg m)<;>cases o:l.all (Fm.abg m)<;>simp
def tA:∀(n:Nat) (t:Fm) (f b:Int),t.abc<=n->t.abc<=1000000000->0<=f->f+t.abc<=10000000000->0<=b->b<=10000000000->t.abg 1000000000000=true->gT n t f b=some (t.up f b):=by
 intro n
 induction n with
 |zero=>intro t f b h;have:=t.eQ;omega
 |succ n o=>
  intro t f b h d p e i a hi;cases t with
  |mk k s ts l=>
   rw[Fm.ef] at h d e;rw[Fm.fT] at hi;simp only[gL,k4] at hi;have r:=Fm.fQ l;have q:=Tm.fQ ts;have u:=BU k;rw[gT];simp only[Fm.eG,Fm.hU,Fm.eN,Fm.fv,ey,eE (l:=l) (by omega),eE (l:=ts) (by omega),eo];rw[iT (Tm.up f b) ts 0 [] (by simp;omega)]
   ·simp only[cl,en];rw[iT (Fm.up (f+qB k) b) l 0 [] (by simp;omega)]
    ·simp[Fm.l0]
    ·intro j x v c g;have:=eL Fm.abc c;rw[pY];simp only[cl,Fm.eN];rw[fu (by omega) (by omega),o x (f+qB k) b (by omega) (by omega) (by omega) (by omega) i a (hi.2 x c)];simp[fl (l:=v) (m:=[x.up (f+qB k) b]) (by simpa using g)]
   ·intro j x v c g;have:=eL Tm.abc c;rw[zG FU x f b (by rw[fy];omega) (by omega) p (by omega) i a (hi.1 x c)];simp[fl (l:=v) (m:=[x.up f b]) (by simpa using g)]
def GZ:∀(n:Nat) (t:Fm) (a:Int),t.abc<=n->t.abc<=1000000000->0<=a->a+t.abc<=10000000000->oG n t a=some (t.abi a:Int):=by
 intro n
 induction n with
 |zero=>intro t a h;have:=t.eQ;omega
 |succ n g=>
  intro t a h c i d;cases t with
  |mk k s ts l=>
   rw[Fm.ef] at h c d;have q:=Fm.fQ l;have m:=Tm.fQ ts;have r:=BU k;have o:eC (Fm.abi (a+qB k)) l<=eC Fm.abc l:=kJ λx _=>x.iZ _;have f:eC (Tm.abi a) ts<=eC Tm.abc ts:=kJ λx _=>x.iZ _;rw[oG];simp only[Fm.eG,Fm.hU,Fm.eN,ey,eE (l:=l) (by omega),eE (l:=ts) (by omega),eo]
   have p:=qk (ρ:=Int) (F:=λ(_:Int) (x:Tm) (v:Int)=>cv (mz FU x a) λy=>some (gu.next (fj .i64 v y))) (Tm.abi a) ts 0 0 (by omega) (by
    intro j x v e;have:=eL Tm.abc e;rw[zH FU x a (by rw[fy];omega) (by omega) i (by omega)]
    rfl)
   have k2:=qk (ρ:=Int) (F:=λ(_:Int) (x:Fm) (v:Int)=>cv (nM (Fm.mk k s ts l)) λb=>cv (oG n x (fj .i64 a b)) λy=>some (gu.next (fj .i64 v y))) (Fm.abi (a+qB k)) l 0 (0+eC (Tm.abi a) ts) (by omega) (by
    intro j x v e;have:=eL Fm.abc e;rw[pY];simp only[cl,Fm.eN];rw[fu (by omega) (by omega),g x _ (by omega) (by omega) (by omega) (by omega)]
    rfl)
   rw[show(0:Int)=((0:Nat):Int)from rfl,p];simp only[cl,en];rw[k2];simp[Fm.gU]
def Mn:∀(n:Nat) (t:Fm) (a b:Int) (s:Tm),t.abc<=n->t.abc<=1000000000->0<=a->0<=b->a+b+t.abc<=5000000000->t.abg 1000000000000=true->t.ok=true->s.abc<=1000000000->s.abg 1000000000000=true->vr n t a b s=some (Fm.m7 (a+b) t s):=by
 intro n
 induction n with
 |zero=>intro t a b s h;have:=t.eQ;omega
 |succ n p=>
  intro t a b s h f o q g hi c hs e;cases t with
  |mk k ty ts l=>
   rw[Fm.ef] at h f g;rw[Fm.fT] at hi;rw[Fm.hY] at c;simp only[gL,k4] at hi c;have u:=Fm.fQ l;have r:=Tm.fQ ts;have w:=BU k;rw[vr];simp only[Fm.eG,Fm.hU,Fm.eN,Fm.fv,ey,eE (l:=l) (by omega),eE (l:=ts) (by omega),eo];rw[iT (λx=>Tm.m7 (a+b) x s) ts 0 [] (by simp;omega)]
   ·simp only[cl,en];rw[iT (λx=>Fm.m7 (a+b+qB k) x s) l 0 [] (by simp;omega)]
    ·simp[Fm.nU]
    ·intro j x v d i;have:=eL Fm.abc d;rw[pY];simp only[cl,Fm.eN];rw[fu (by omega) (by omega),p x a (b+qB k) s (by omega) (by omega) o (by omega) (by omega) (hi.2 x d) (c.2 x d) hs e];rw[show a+(b+qB k)=a+b+qB k by omega];simp[fl (l:=v) (m:=[Fm.m7 (a+b+qB k) x s]) (by simpa using i)]
   ·intro j x v d i;have:=eL Tm.abc d;rw[DY FU x a b s (by rw[fy];omega) (by omega) o q (by omega) (hi.1 x d) (c.1.2 x d) hs e];simp[fl (l:=v) (m:=[Tm.m7 (a+b) x s]) (by simpa using i)]
def Fm.mZ(t:Fm):∀{m n:Int},m<=n->t.abg m=true->t.abg n=true:=by
 induction t using Fm.ind with
 |h k s ts l c=>
  intro m n a h;rw[Fm.fT] at*;simp only[gL,k4] at*;exact⟨λx b=>Tm.mZ x a (h.1 x b),λx b=>c x b a (h.2 x b)⟩
def kM.abg{g:List Ty}{f:Fm}(h:kM g f):∀m:Int,((g.length+f.abc:Nat):Int)<=m->f.abg m=true:=by
 induction h with
 |eq c d=>
  intro m hm;simp only[Fm.ef,eC] at hm;simp only[Fm.fT,xd,EK,Ai,gL];exact⟨c.abg m (by omega),d.abg m (by omega)⟩
 |two _ _ _ a b=>
  intro m hm;simp only[Fm.ef,eC] at hm;simp only[Fm.fT,xd,EK,Ai,gL,z8];exact⟨a m (by omega),b m (by omega)⟩
 |q _ _ _ e=>
  intro m hm;simp only[Fm.ef,eC] at hm;simp only[Fm.fT,xd,EK,Ai,z8];exact e m (by simp;omega)
def Tm.Hr(φ:Int->Int->Tm)(b:Int):Tm->Tm
 |.mk k i s l=>if k=1 then φ i b else .mk k i s (l.attach.map λx=>Tm.Hr φ (b+gC k) x.1)
decreasing_by
 have:=Vb x.2;simp only[Tm.mk.sizeOf_spec];omega
def Tm.yC(φ:Int->Int->Tm)(b k i:Int)(s:Ty)(l:List Tm):(Tm.mk k i s l).Hr φ b=if k=1 then φ i b else .mk k i s (l.map (Tm.Hr φ (b+gC k))):=by
 rw[Tm.Hr]
 congr 2
 exact Zh
def wP(k b:Int)(a:-1000000000000<=b)(c:b<=1000000000000):fU (eH k 2) (fj .i64 b 1) b=b+gC k:=by
 unfold gC
 by_cases h:k=2
 ·subst h;rw[show eH 2 2=true from rfl,ee rfl];exact fu (by omega) (by omega)
 ·rw[show eH k 2=false by simpa[eH] using h,ea h];show b=b+0;omega
def vQ{h:Int->Int->Option Tm}{φ:Int->Int->Tm}{M:Int}(y:∀i b,0<=i->i<=M->0<=b->b<=10000000000->h i b=some (φ i b)):∀(n:Nat) (t:Tm) (b:Int),t.abc<=n->t.abc<=50000000->t.ok=true->t.abg M=true->0<=b->b+t.abc<=10000000000->h_ n t b (λ(s:Unit) (g:Int) (m:Int)=>q5 (h g m) s) ()=some (t.Hr φ b,()):=by
 intro n
 induction n with
 |zero=>intro t b h;have:=t.eQ;omega
 |succ n z=>
  intro t b hn A o p B q;cases t with
  |mk k i s l=>
   rw[Tm.ef] at hn A q;have hlen:=Tm.fQ l;have e:=o;rw[Tm.hY,gL] at o;have C:=Ty.wc o.1;rw[Tm.fT,gL,MO,k4] at p;rw[h_,Tm.yC]
   by_cases r:k=1
   ·subst r;have hi:=(Tm.l6 e).2.1;rw[ee (by rfl),ee rfl];simp only[Tm.gy];rw[y i b hi p.1 B (by omega),Ef,eb]
   ·rw[ea (by simpa[eH] using r),ea r];simp only[Tm.fv,Tm.eG,Tm.eN,Tm.gy,ey];rw[py (by omega),cl,eE (by omega),eo,wP k b (by omega) (by omega)];have D:=ly k
    have loop:∀(ts:List Tm) (j:Nat) (v:List Tm),(∀t∈ts,t∈l)->v.length+ts.length<=50000000->ft (λ(E:Int) (w:Tm)=>(sD λ(a:List Tm) (v107:Unit)=>
       ei (h_ n w (b+gC k) (λ(s:Unit) (g:Int) (m:Int)=>q5 (h g m) s) v107) λc f=>
       g_ (gf a [c])<|some ((.next ((gv a [c]),f)):gu ((List Tm)×Unit) (Tm×Unit)))) ts j (v,())=some (.inl (v++ts.map (Tm.Hr φ (b+gC k)),())):=by
     intro ts
     induction ts with
     |nil=>intro j v _ _;simp|cons t ts x=>
      intro j v hm F;simp only[lL] at F;have d:=hm t (by simp);have G:=eL Tm.abc d;rw[fm];simp only[sD];rw[z t (b+gC k) (by omega) (by omega) ((Tm.l6 e).2.2.2.1 t d) (p.2 t d) (by omega) (by omega),eb,fl (by simp;omega),eo];simp only[cl,fA];rw[gG];have:=x (j+1) (v++[t.Hr φ (b+gC k)]) (λu hu=>hm u (by simp[hu])) (by simp;omega);rw[this];simp
    rw[loop l 0 [] (λt h=>h) (by simp;omega),cl];simp
structure Bd (t:Tm):Prop where
 ok:t.ok=true
 abg:t.abg 1000000000000=true
 abc:t.abc<=50000000
def Tm.M'(f c:Int)(n:0<=f):∀(t:Tm) (b:Int),0<=b->t.ok=true->t.Hr (λi b=>.mk 1 (if f<=i-b then i+c else i) (.mk 0 []) []) b=t.up (f+b) c:=by
 intro t
 induction t using Tm.ind with
 |h k i s l g=>
  intro b o a;have hi:=Tm.l6 a;rw[Tm.yC,Tm.l0]
  by_cases d:k=1
  ·subst d;rw[ee rfl]
   have j:l=[]:=by
    have:=hi.2.2.2.2;unfold iI at this;rw[ee (.inl rfl)] at this;exact BB (by omega)
   have hs:s=.mk 0 []:=by
    rw[Tm.hY] at a;simp only[Tm.node,gL] at a;have:=a.1.2;rw[ea (by decide)] at this;exact(Ty.mL s).1 this
   subst j;subst hs;simp only[LW,FK]
   congr 1
   by_cases h:f+b<=i
   ·rw[ee h,ee (by omega)]
   ·rw[ea h,ea (by omega)]
  ·rw[ea d,ea (λh=>d h.1)];have m:=ly k
   congr 1
   exact xx λx e=>by rw[g x e (b+gC k) (by omega) (hi.2.2.2.1 x e),show f+(b+gC k)=f+b+gC k by omega]
def CG{t:Tm}{f c:Int}(h:Bd t)(d:0<=f)(e:f<=10000000000)(m:0<=c)(g:c<=10000000000):rC t f c=some (t.up f c):=by
 unfold rC oR;rw[vQ (h:=λj k=>tC j k f c) (φ:=λi b=>.mk 1 (if f<=i-b then i+c else i) (.mk 0 []) []) (M:=1000000000000) (λi b n o p q=>?_) FU t 0 (by have:=fy;have:=h.abc;omega) h.abc h.ok h.abg (by omega) (by have:=h.abc;omega)]
 ·rw[eb,eb,Tm.M' f c d t 0 (by omega) h.ok,show f+0=f by omega]
 ·unfold tC iK;simp only[cl];rw[fG (by omega) (by omega),fu (by omega) (by omega)]
  by_cases a:f<=i-b
  ·rw[ee a,show tq (i-b) f=true by rw[jk];exact a];rfl
  ·rw[ea a,show tq (i-b) f=false by
    cases l:tq (i-b) f with
    |false=>rfl|true=>exact absurd ((jk _ _).1 l) a];rfl
def oY(k:Int):nr k=some (kR k):=by
 unfold nr kR;rw[q_];simp only[tq,Jx,sH];rw[<-Bool.decide_and];exact By.2 (by simp only[MO];omega)
def Fm.tv{k:Int}{s:Ty}{ts:List Tm}{l:List Fm}(h:(Fm.mk k s ts l).ok=true):s.abc<=64/\(∀t∈ts,t.ok=true)/\(∀f∈l,f.ok=true):=by
 rw[Fm.hY] at h;simp only[gL,k4] at h;refine⟨?_,h.1.2,h.2⟩;have hn:=h.1.1;unfold Fm.node at hn
 split at hn
 ·simp only[gL] at hn;rw[(Ty.mL s).1 hn.1.1,Ty.ef];simp[eC]
 ·split at hn
  ·simp only[gL] at hn;rw[(Ty.mL s).1 hn.1.1,Ty.ef];simp[eC]
  ·simp only[gL,ni] at hn;exact fD hn.1.1.2
def Fm.Hr(ψ:Tm->Int->Tm)(b:Int):Fm->Fm
 |.mk k s ts l=>.mk k s (ts.map λt=>ψ t b) (l.attach.map λx=>Fm.Hr ψ (b+qB k) x.1)
decreasing_by
 have:=Vb x.2;simp only[Fm.mk.sizeOf_spec];omega
def Fm.yC(ψ:Tm->Int->Tm)(b k:Int)(s:Ty)(ts:List Tm)(l:List Fm):(Fm.mk k s ts l).Hr ψ b=.mk k s (ts.map λt=>ψ t b) (l.map (Fm.Hr ψ (b+qB k))):=by
 rw[Fm.Hr]
 congr 1
 exact Zh
def oS{h:Tm->Int->Option Tm}{ψ:Tm->Int->Tm}(J:∀t b,Bd t->0<=b->b<=1000000000->h t b=some (ψ t b)):∀(n:Nat) (f:Fm) (b:Int),f.abc<=n->f.abc<=50000000->f.ok=true->f.abg 1000000000000=true->0<=b->b+f.abc<=1000000000->fq n f b (λ(s:Unit) (q:Tm) (w:Int)=>q5 (h q w) s) ()=some (f.Hr ψ b,()):=by
 intro n
 induction n with
 |zero=>intro f b h;have:=f.eQ;omega
 |succ n K=>
  intro f b hn L M A N B;cases f with
  |mk k s ts l=>
   rw[Fm.ef] at hn L B;have O:=iu Tm.abc ts λt _=>t.eQ;have P:=iu Fm.abc l λt _=>t.eQ;obtain⟨Q,C,D⟩:=Fm.tv M;rw[Fm.fT,gL,k4,k4] at A;rw[fq,Fm.yC];simp only[Fm.fv,Fm.eG,Fm.eN,Fm.hU,ey];rw[py (by omega),cl,eE (by omega),eo];have R:=BU k
   have m:∀(us:List Tm) (j:Nat) (v:List Tm),(∀t∈us,t∈ts)->v.length+us.length<=50000000->ft (λ(S:Int) (E:Tm)=>(sD λ(v91:List Tm) (F:Unit)=>
      ei (q5 (h E b) F) λi x=>
      g_ (gf v91 [i])<|some ((.next ((gv v91 [i]),x)):gu ((List Tm)×Unit) (Fm×Unit)))) us j (v,())=some (.inl (v++us.map (λt=>ψ t b),())):=by
    intro us
    induction us with
    |nil=>intro j v _ _;simp|cons t us o=>
     intro j v hm G;simp only[lL] at G;have d:=hm t (by simp);have H:=eL Tm.abc d;rw[fm];simp only[sD];rw[J t b ⟨C t d,A.1 t d,by omega⟩ N (by omega),Ef,eb,fl (by simp;omega),eo];simp only[cl,fA];rw[gG];have:=o (j+1) (v++[ψ t b]) (λu hu=>hm u (by simp[hu])) (by simp;omega);rw[this];simp
   rw[m ts 0 [] (λt h=>h) (by simp;omega),cl];simp only[en,sD];rw[oY,cl]
   have p:∀(us:List Fm) (j:Nat) (v:List Fm),(∀t∈us,t∈l)->v.length+us.length<=50000000->ft (λ(y:Int) (e:Fm)=>(sD λ(a:List Fm) (v212:Unit)=>
      ei (fq n e (b+qB k) (λ(s:Unit) (q:Tm) (w:Int)=>q5 (h q w) s) v212) λc g=>
      g_ (gf a [c])<|some ((.next ((gv a [c]),g)):gu ((List Fm)×Unit) (Fm×Unit)))) us j (v,())=some (.inl (v++us.map (Fm.Hr ψ (b+qB k)),())):=by
    intro us
    induction us with
    |nil=>intro j v _ _;simp|cons t us o=>
     intro j v hm G;simp only[lL] at G;have d:=hm t (by simp);have H:=eL Fm.abc d;rw[fm];simp only[sD];rw[K t (b+qB k) (by omega) (by omega) (D t d) (A.2 t d) (by omega) (by omega),eb,fl (by simp;omega),eo];simp only[cl,fA];rw[gG];have:=o (j+1) (v++[t.Hr ψ (b+qB k)]) (λu hu=>hm u (by simp[hu])) (by simp;omega);rw[this];simp
   have fin:(g_ (fo l)<|cv (ft (λ(y:Int) (e:Fm)=>(sD λ(a:List Fm) (v212:Unit)=>
      ei (fq n e (b+qB k) (λ(s:Unit) (q:Tm) (w:Int)=>q5 (h q w) s) v212) λc g=>
      g_ (gf a [c])<|some ((.next ((gv a [c]),g)):gu ((List Fm)×Unit) (Fm×Unit)))) l 0 ([],())) (gm (sD λ(a:List Fm) (v212:Unit)=>some ((Fm.mk k s ([]++ts.map λt=>ψ t b) a),v212)) (λr=>some r)))=some (Fm.mk k s (ts.map λt=>ψ t b) (l.map (Fm.Hr ψ (b+qB k))),()):=by
    rw[eE (by omega),eo,p l 0 [] (λt h=>h) (by simp;omega),cl];simp
   by_cases z:kR k=true
   ·rw[ee z]
    have I:b+qB k=b+1:=by unfold qB;rw[ee z]
    rw[I] at fin|-;rw[fu (by omega) (by omega)];exact fin
   ·rw[ea z]
    have I:b+qB k=b:=by unfold qB;rw[ea z];omega
    rw[I] at fin|-;exact fin
def Fm.M'(f c:Int):∀(g:Fm) (b:Int),g.Hr (λt b=>t.up (f+b) c) b=g.up (f+b) c:=by
 intro g
 induction g using Fm.ind with
 |h k s ts l a=>
  intro b;rw[Fm.yC,Fm.l0]
  congr 1
  exact xx λx d=>by rw[a x d (b+qB k),show f+(b+qB k)=f+b+qB k by omega]
def t_{g:Fm}{f c:Int}(d:g.ok=true)(hn:g.abc<=50000000)(e:g.abg 1000000000000=true)(m:0<=f)(i:f<=1000000000)(j:0<=c)(a:c<=10000000000):fR g f c=some (g.up f c):=by
 unfold fR;rw[oS (h:=λk l=>m0 k l f c) (ψ:=λt b=>t.up (f+b) c) (λt b h n o=>?_) FU g 0 (by have:=fy;omega) hn d e (by omega) (by omega)]
 ·rw[eb,Fm.M' f c g 0,show f+0=f by omega]
 ·unfold m0;rw[fu (by omega) (by omega),CG h (by omega) (by omega) j a];rfl
def Tm.QY{i:Int}{s:Ty}{l:List Tm}(a:(Tm.mk 1 i s l).ok=true):l=[]/\s=.mk 0 []:=by
 have hi:=Tm.l6 a;constructor
 ·have:=hi.2.2.2.2;unfold iI at this;rw[ee (.inl rfl)] at this;exact BB (by omega)
 ·rw[Tm.hY] at a;simp only[Tm.node,gL] at a;have:=a.1.2;rw[ea (by decide)] at this;exact(Ty.mL s).1 this
def NL(a:Int)(s:Tm)(i b:Int):Tm:=if i-b=a then s.up 0 (a+b)else if a<i-b then .mk 1 (i-1) (.mk 0 []) [] else .mk 1 i (.mk 0 []) []
def Tm.Kr(a:Int)(s:Tm):∀(t:Tm) (b:Int),t.ok=true->t.Hr (NL a s) b=Tm.m7 (a+b) t s:=by
 intro t
 induction t using Tm.ind with
 |h k i ty l j=>
  intro b d;have hi:=Tm.l6 d;rw[Tm.yC,Tm.nU]
  by_cases c:k=1
  ·subst c;obtain⟨rfl,rfl⟩:=Tm.QY d;rw[ee rfl,ee rfl];unfold NL Tm.vh
   by_cases e:i-b=a
   ·rw[ee e,ee (by omega)]
   ·rw[ea e,ea (show¬i=a+b by omega)]
    by_cases f:a<i-b
    ·rw[ee f,ee (by omega)]
    ·rw[ea f,ea (by omega)]
  ·rw[ea c,ea c]
   congr 1
   exact xx λx g=>by rw[j x g (b+gC k) (hi.2.2.2.1 x g),show a+(b+gC k)=a+b+gC k by omega]
def F3(s:Tm):Prop:=∀c,0<=c->c<=10000000000->rC s 0 c=some (s.up 0 c)
def Bd.lift{s:Tm}(h:Bd s):F3 s:=λc a b=>CG h (by omega) (by omega) a b
def KV{t s:Tm}{a:Int}(h:Bd t)(hs:F3 s)(K:0<=a)(D:a<=1000000000):zd t a s=some (Tm.m7 a t s):=by
 unfold zd oR;have hn:=h.abc
 have key:∀(n:Nat) (t:Tm) (b:Int),t.abc<=n->t.abc<=50000000->t.ok=true->t.abg 1000000000000=true->0<=b->b+t.abc<=1000000000->h_ n t b (λ(f:Unit) (m:Int) (g:Int)=>q5 (oP m g a s) f) ()=h_ n t b (λ(f:Unit) (m:Int) (g:Int)=>q5 (if g<=1000000000 then oP m g a s else some (NL a s m g)) f) ():=by
  intro n
  induction n with
  |zero=>intro t b h;have:=t.eQ;omega
  |succ n E=>
   intro t b hn r F C G y;cases t with
   |mk k i ty l=>
    rw[Tm.ef] at hn r y;rw[Tm.fT,gL,MO,k4] at C;have hi:=Tm.l6 F;have H:=ly k;rw[h_,h_]
    by_cases z:k=1
    ·subst z;rw[ee (by rfl),ee (by rfl),ee (by omega)]
    ·rw[ea (by simpa[eH] using z),ea (by simpa[eH] using z)];simp only[Tm.fv,Tm.eG,Tm.eN,Tm.gy,ey];rw[wP k b (by omega) (by omega)]
     have loop:∀(ts:List Tm) (j:Nat) (v:List Tm),(∀t∈ts,t∈l)->ft (λ(A:Int) (p:Tm)=>(sD λ(d:List Tm) (v107:Unit)=>
        ei (h_ n p (b+gC k) (λ(f:Unit) (m:Int) (g:Int)=>q5 (oP m g a s) f) v107) λe o=>
        g_ (gf d [e])<|some ((.next ((gv d [e]),o)):gu ((List Tm)×Unit) (Tm×Unit)))) ts j (v,())=ft (λ(A:Int) (p:Tm)=>(sD λ(d:List Tm) (v107:Unit)=>
        ei (h_ n p (b+gC k) (λ(f:Unit) (m:Int) (g:Int)=>q5 (if g<=1000000000 then oP m g a s else some (NL a s m g)) f) v107) λe o=>
        g_ (gf d [e])<|some ((.next ((gv d [e]),o)):gu ((List Tm)×Unit) (Tm×Unit)))) ts j (v,()):=by
      intro ts
      induction ts with
      |nil=>intro j v _;rfl|cons t ts B=>
       intro j v hm;have q:=hm t (by simp);have I:=eL Tm.abc q;rw[fm,fm];simp only[sD];rw[E t (b+gC k) (by omega) (by omega) (hi.2.2.2.1 t q) (C.2 t q) (by omega) (by omega)]
       congr 1
       funext c
       cases c with
       |next st=>
        obtain⟨J,u⟩:=st;exact B (j+1) J (λu hu=>hm u (by simp[hu]))
       |_=>rfl
     rw[loop l 0 [] (λt h=>h)]
 rw[key FU t 0 (by have:=fy;omega) hn h.ok h.abg (by omega) (by omega)];rw[vQ (h:=λm g=>if g<=1000000000 then oP m g a s else some (NL a s m g)) (φ:=NL a s) (M:=1000000000000) (λi b G L N O=>?_) FU t 0 (by have:=fy;omega) h.abc h.ok h.abg (by omega) (by omega)]
 ·rw[eb,eb,Tm.Kr a s t 0 h.ok,show a+0=a by omega]
 ·by_cases r:b<=1000000000
  ·rw[ee r];unfold oP iK NL;rw[fG (by omega) (by omega),fu (by omega) (by omega)]
   by_cases w:i-b=a
   ·rw[ee (by simpa[eH] using w),ee w,hs _ (by omega) (by omega)];rfl
   ·rw[ea (by simpa[eH] using w),ea w]
    by_cases x:a<i-b
    ·rw[ee (by rw[gD];exact x),ee x,fG (by omega) (by omega)];rfl
    ·rw[ea (by rw[gD];exact x),ea x];rfl
  ·rw[ea r]
def Fm.Kr(a:Int)(s:Tm):∀(g:Fm) (b:Int),g.Hr (λt b=>Tm.m7 (a+b) t s) b=Fm.m7 (a+b) g s:=by
 intro g
 induction g using Fm.ind with
 |h k ty ts l c=>
  intro b;rw[Fm.yC,Fm.nU]
  congr 1
  exact xx λx d=>by rw[c x d (b+qB k),show a+(b+qB k)=a+b+qB k by omega]
def vw{g:Fm}{s:Tm}{a:Int}(B:g.ok=true)(hn:g.abc<=50000000)(I:g.abg 1000000000000=true)(hs:F3 s)(P:0<=a)(J:a<=100000000):k1 g a s=some (Fm.m7 a g s):=by
 unfold k1
 have key:∀(n:Nat) (f:Fm) (b:Int),f.abc<=n->f.abc<=50000000->f.ok=true->0<=b->b+f.abc<=100000000->fq n f b (λ(i:Unit) (p:Tm) (m:Int)=>q5 (jl p m a s) i) ()=fq n f b (λ(i:Unit) (p:Tm) (m:Int)=>q5 (if m<=100000000 then jl p m a s else some (Tm.m7 (a+m) p s)) i) ():=by
  intro n
  induction n with
  |zero=>intro f b h;have:=f.eQ;omega
  |succ n K=>
   intro f b hn C B L E;cases f with
   |mk k ty ts l=>
    rw[Fm.ef] at hn C E;obtain⟨_,_,F⟩:=Fm.tv B;have M:=BU k;rw[fq,fq];simp only[Fm.fv,Fm.eG,Fm.eN,Fm.hU,ey,ee (show b<=100000000 by omega),oY,cl]
    have loop:∀(us:List Fm) (j:Nat) (v:List Fm) (x:Int),0<=x->x+eC Fm.abc l<=100000000->(∀t∈us,t∈l)->ft (λ(y:Int) (q:Fm)=>(sD λ(d:List Fm) (v212:Unit)=>
       ei (fq n q x (λ(i:Unit) (p:Tm) (m:Int)=>q5 (jl p m a s) i) v212) λe w=>
       g_ (gf d [e])<|some ((.next ((gv d [e]),w)):gu ((List Fm)×Unit) (Fm×Unit)))) us j (v,())=ft (λ(y:Int) (q:Fm)=>(sD λ(d:List Fm) (v212:Unit)=>
       ei (fq n q x (λ(i:Unit) (p:Tm) (m:Int)=>q5 (if m<=100000000 then jl p m a s else some (Tm.m7 (a+m) p s)) i) v212) λe w=>
       g_ (gf d [e])<|some ((.next ((gv d [e]),w)):gu ((List Fm)×Unit) (Fm×Unit)))) us j (v,()):=by
     intro us
     induction us with
     |nil=>intro j v x _ _ _;rfl|cons t us G=>
      intro j v x z H hm;have A:=hm t (by simp);have N:=eL Fm.abc A;rw[fm,fm];simp only[sD];rw[K t x (by omega) (by omega) (F t A) z (by omega)]
      congr 1
      funext c
      cases c with
      |next st=>
       obtain⟨O,u⟩:=st;exact G (j+1) O x z H (λu hu=>hm u (by simp[hu]))
      |_=>rfl
    congr 1
    funext Q
    congr 1
    congr 1
    funext o
    cases o with
    |inr r=>rfl|inl st=>
     obtain⟨v,u⟩:=st;simp only[en,sD]
     by_cases D:kR k=true
     ·rw[ee D,ee D,fu (by omega) (by omega)];rw[show(([]:List Fm),u)=([],())from rfl,loop l 0 [] (b+1) (by omega) (by omega) (λt h=>h)]
     ·rw[ea D,ea D];rw[show(([]:List Fm),u)=([],())from rfl,loop l 0 [] b (by omega) (by omega) (λt h=>h)]
 rw[key FU g 0 (by have:=fy;omega) hn B (by omega) (by omega)];rw[oS (h:=λp m=>if m<=100000000 then jl p m a s else some (Tm.m7 (a+m) p s)) (ψ:=λt b=>Tm.m7 (a+b) t s) (λt b h L R=>?_) FU g 0 (by have:=fy;omega) hn B I (by omega) (by omega)]
 ·rw[eb,Fm.Kr a s g 0,show a+0=a by omega]
 ·by_cases C:b<=100000000
  ·rw[ee C];unfold jl;rw[fu (by omega) (by omega),KV h hs (by omega) (by omega)];rfl
  ·rw[ea C]
def Ew{a i b c:Int}(d:-1000000000000000<=i)(e:i<=1000000000000000)(f:0<=b)(g:b<=10000000000)(j:0<=c)(k:c<=10000000000):oV i b a c=some (c+if i-b=a then 1 else 0):=by
 unfold oV;rw[fG (by omega) (by omega)]
 by_cases h:i-b=a
 ·rw[ee (by simpa[eH] using h),ee h,fu (by omega) (by omega)]
 ·rw[ea (by simpa[eH] using h),ea h,yu]
def EO(a:Int):∀(n:Nat) (t:Tm) (b c:Int),t.abc<=n->t.abc<=50000000->t.ok=true->t.abg 1000000000000=true->0<=b->b+t.abc<=1000000000->0<=c->c+t.abc<=1000000000->jM n t b (λ(s:Int) (f:Int) (g:Int)=>oV f g a s) c=some (c+(t.abi (a+b):Int)):=by
 intro n
 induction n with
 |zero=>intro t b c h;have:=t.eQ;omega
 |succ n y=>
  intro t b c hn z A w B m x C;cases t with
  |mk k i s l=>
   rw[Tm.ef] at hn z m C;have hlen:=Tm.fQ l;have hi:=Tm.l6 A;rw[Tm.fT,gL,MO,k4] at w;have D:=ly k;rw[jM,Tm.gU];simp only[ey]
   have loop:∀(ts:List Tm) (j:Nat) (v:Int),(∀t∈ts,t∈l)->0<=v->v+eC Tm.abc ts<=1000000000->ft (λ(E:Int) (o:Tm)=>(λ(v28:Int)=>
      cv (jM n o (b+gC k) (λ(s:Int) (f:Int) (g:Int)=>oV f g a s) v28) λp=>
      some ((.next p):gu Int Int))) ts j v=some (.inl (v+(eC (Tm.abi (a+b+gC k)) ts:Int))):=by
    intro ts
    induction ts with
    |nil=>intro j v _ _ _;simp[eC]|cons t ts q=>
     intro j v hm v0 v1;simp only[eC] at v1|-;have d:=hm t (by simp);have F:=eL Tm.abc d;have G:=t.iZ (a+b+gC k);rw[fm,y t (b+gC k) v (by omega) (by omega) (hi.2.2.2.1 t d) (w.2 t d) (by omega) (by omega) v0 (by omega),show a+(b+gC k)=a+b+gC k by omega];simp only[cl,fA];rw[q (j+1) _ (λu hu=>hm u (by simp[hu])) (by omega) (by omega)]
     congr 2
     push_cast
     omega
   by_cases r:k=1
   ·subst r;rw[ee (show eH (Tm.mk 1 i s l).aba 1=true from rfl)];simp only[Tm.eG,Tm.eN,Tm.gy];rw[Ew (by omega) (by omega) B (by omega) x (by omega),cl,wP 1 b (by omega) (by omega),eE (by omega),eo];rw[loop l 0 _ (λt h=>h) (by split<;>omega) (by split<;>omega)];simp only[cl,en]
    congr 1
    by_cases e:i-b=a
    ·rw[ee e,ee (show True/\i=a+b from⟨trivial,by omega⟩)];omega
    ·rw[ea e,ea (show¬(True/\i=a+b)fromλh=>e (by omega))];omega
   ·rw[ea (show¬eH (Tm.mk k i s l).aba 1=true by simpa[eH] using r),ea (show¬(k=1/\i=a+b)fromλh=>r h.1)];simp only[Tm.eG,Tm.eN,Tm.gy];rw[wP k b (by omega) (by omega),eE (by omega),eo];rw[loop l 0 c (λt h=>h) x (by omega)];simp only[cl,en]
    congr 1
    push_cast
    omega
def AD{t:Tm}(a:Int)(h:Bd t):sY t a=some (t.abi a:Int):=by
 unfold sY rH;have hn:=h.abc;rw[EO a FU t 0 0 (by have:=fy;omega) hn h.ok h.abg (by omega) (by omega) (by omega) (by omega)];simp only[cl];rw[show a+0=a by omega,Int.zero_add]
def Aq{a:Int}(U:0<=a)(H:a<=100000000):∀(n:Nat) (f:Fm) (b c:Int),f.abc<=n->f.abc<=50000000->f.ok=true->f.abg 1000000000000=true->0<=b->b+f.abc<=100000000->0<=c->c+f.abc<=1000000000->mI n f b (λ(s:Int) (p:Tm) (q:Int)=>jK p q s a) c=some (c+(f.abi (a+b):Int)):=by
 intro n
 induction n with
 |zero=>intro f b c h;have:=f.eQ;omega
 |succ n I=>
  intro f b c hn J K r V w L M;cases f with
  |mk k s ts l=>
   rw[Fm.ef] at hn J w M;have N:=iu Tm.abc ts λt _=>t.eQ;have O:=iu Fm.abc l λt _=>t.eQ;obtain⟨_,y,z⟩:=Fm.tv K;rw[Fm.fT,gL,k4,k4] at r;have P:=BU k;rw[mI,Fm.gU];simp only[Fm.eG,Fm.eN,Fm.hU,ey];rw[eE (by omega),eo]
   have i:∀(us:List Tm) (j:Nat) (v:Int),(∀t∈us,t∈ts)->0<=v->v+eC Tm.abc us<=1000000000->ft (λ(Q:Int) (A:Tm)=>(λ(B:Int)=>
      cv (jK A b B a) λC=>
      some ((.next C):gu Int Int))) us j v=some (.inl (v+(eC (Tm.abi (a+b)) us:Int))):=by
    intro us
    induction us with
    |nil=>intro j v _ _ _;simp[eC]|cons t us e=>
     intro j v hm v0 v1;simp only[eC] at v1|-;have d:=hm t (by simp);have D:=eL Tm.abc d;have R:=t.iZ (a+b);rw[fm];unfold jK at e|-;rw[fu (a:=a) (by omega) (by omega),AD (a+b) ⟨y t d,r.1 t d,by omega⟩];simp only[cl,fA];rw[fu (by omega) (by omega)];have:=e (j+1) (v+(t.abi (a+b):Int)) (λu hu=>hm u (by simp[hu])) (by omega) (by omega);rw[fu (a:=a) (by omega) (by omega)] at this;rw[this]
     congr 2
     push_cast
     omega
   rw[i ts 0 c (λt h=>h) L (by omega)];have S:=kJ (f:=Tm.abi (a+b)) (g:=Tm.abc) (l:=ts) λx _=>x.iZ _;simp only[cl,en];rw[oY,cl]
   have m:∀(us:List Fm) (j:Nat) (v:Int),(∀t∈us,t∈l)->0<=v->v+eC Fm.abc us<=1000000000->ft (λ(T:Int) (E:Fm)=>(λ(v72:Int)=>
      cv (mI n E (b+qB k) (λ(s:Int) (p:Tm) (q:Int)=>jK p q s a) v72) λF=>
      some ((.next F):gu Int Int))) us j v=some (.inl (v+(eC (Fm.abi (a+b+qB k)) us:Int))):=by
    intro us
    induction us with
    |nil=>intro j v _ _ _;simp[eC]|cons t us e=>
     intro j v hm v0 v1;simp only[eC] at v1|-;have d:=hm t (by simp);have D:=eL Fm.abc d;have R:=t.iZ (a+b+qB k);rw[fm,I t (b+qB k) v (by omega) (by omega) (z t d) (r.2 t d) (by omega) (by omega) v0 (by omega),show a+(b+qB k)=a+b+qB k by omega];simp only[cl,fA];rw[e (j+1) _ (λu hu=>hm u (by simp[hu])) (by omega) (by omega)]
     congr 2
     push_cast
     omega
   have fin:=m l 0 (c+(eC (Tm.abi (a+b)) ts:Int)) (λt h=>h) (by omega) (by omega)
   by_cases o:kR k=true
   ·rw[ee o]
    have G:qB k=1:=by unfold qB;rw[ee o]
    rw[G] at fin|-;rw[fu (by omega) (by omega),eE (by omega),eo,fin];simp only[cl,en]
    congr 1
    push_cast
    omega
   ·rw[ea o]
    have G:qB k=0:=by unfold qB;rw[ea o]
    rw[G] at fin|-;rw[yu b] at fin;rw[eE (by omega),eo,fin];simp only[cl,en]
    congr 1
    push_cast
    omega
def p0{f:Fm}{a:Int}(c:f.ok=true)(hn:f.abc<=50000000)(d:f.abg 1000000000000=true)(e:0<=a)(b:a<=100000000):kN f a=some (f.abi a:Int):=by
 unfold kN;rw[Aq e b FU f 0 0 (by have:=fy;omega) hn c d (by omega) (by omega) (by omega) (by omega)];simp only[cl];rw[show a+0=a by omega,Int.zero_add]
noncomputable def ot (f:Fm) (t:Tm):Fm×Int:=if 4096<(Fm.m7 0 f t).abc then(.mk 0 (.mk 0 []) [] [],4)else(Fm.m7 0 f t,0)
noncomputable def G6 (f:Fm) (g:List Ty):Int:=if wx g≠0 then wx g else if f.err≠0 then f.err else f.vE g
def kf.of{g:List Ty}(h:wx g=0):kf g/\g.length<=16:=by
 unfold wx at h
 split at h
 ·cases h
 ·rename_i d;refine⟨λs hs=>?_,by omega⟩
  have key:∀l:List Ty,hE (l.map Ty.err)=0->∀s∈l,s.err=0:=by
   intro l
   induction l with
   |nil=>intro _ s hs;cases hs
   |cons a l c=>
    intro h s hs;simp only[zf,hE] at h
    by_cases b:a.err=0
    ·rw[ee b] at h;rcases lF.1 hs with rfl|hs
     ·exact b
     ·exact c h s hs
    ·rw[ea b] at h;exact absurd h b
  exact key g h s hs
def vj{g:List Ty}(hg:kf g)(c:g.length<=1000000):oC g=some (g.map s9):=by
 unfold oC;simp only[ey]
 rw[eE (by omega),eo,iT s9 g 0 [] (by simp;omega) (λj x v a b=>by
  rw[lC (hg x a),cl,fl (by simpa using b),eo,gG])]
 simp
def wZ{f:Fm}{g:List Ty}(hw:f.wt<=1000000000)(c:g.length<=1000000)(h:∀t∈g,t.abc<=1000000000):nO g f=some (G6 f g):=by
 unfold nO G6;rw[xe g c h,cl]
 by_cases a:wx g=0
 ·rw[ea (by rw[eA];simpa using a),ea (by simpa using a),ow hw,cl]
  by_cases he:f.err=0
  ·obtain⟨hg,d⟩:=kf.of a;obtain⟨b,hn⟩:=Fm.hZ he;rw[ea (by rw[eA];simpa using he),ea (by simpa using he),vj hg c,cl,vY f b FU (by have:=fy;omega) g hg (by omega) hn];rfl
  ·rw[ee (by rw[eA];exact he),ee he]
 ·rw[ee (by rw[eA];exact a),ee a]
def uH{f:Fm}{g:List Ty}(hw:f.wt<=1000000000)(c:g.length<=1000000)(h:∀t∈g,t.abc<=1000000000):ki g f=some (G6 f g):=by
 unfold ki k0 G6;rw[sG g c h,cl]
 by_cases a:wx g=0
 ·rw[ea (by rw[eA];simpa using a),ea (by simpa using a),mU hw,cl]
  by_cases he:f.err=0
  ·obtain⟨hg,d⟩:=kf.of a;obtain⟨b,hn⟩:=Fm.hZ he;rw[ea (by rw[eA];simpa using he),ea (by simpa using he),zy f b FU (by have:=fy;omega) g hg (by omega) hn];rfl
  ·rw[ee (by rw[eA];exact he),ee he];rfl
 ·rw[ee (by rw[eA];exact a),ee a]
def HO{f:Fm}{t:Tm}(he:f.err=0)(b:t.err=0)(g:f.abg 1000000000000=true)(d:t.abg 1000000000000=true):jd f t=some (ot f t):=by
 obtain⟨a,hn⟩:=Fm.hZ he;obtain⟨c,e⟩:=Tm.hZ b;have hw:=f.jx a;have j:=t.jx c;have n:=t.eQ;have k:=f.iZ 0;have l:=Fm.rP t f 0 a;unfold jd ot;rw[qf (by omega),eb,sq (by omega),eb,p0 a (by omega) g (by omega) (by omega),cl,ee he,ee b];rw[fG (by omega) (by omega)]
 have hmul:(f.abi 0:Int)*((t.abc:Int)-1)=((f.abi 0*t.abc:Nat):Int)-(f.abi 0:Int):=by rw[Tk,TD];push_cast;rfl
 have m:f.abi 0*t.abc<=4096*4096:=Fg (by omega) e;have h:f.abi 0<=f.abi 0*t.abc:=UU _ (by omega);rw[zM (by rw[hmul];omega) (by rw[hmul];omega),hmul,fu (by omega) (by omega)]
 by_cases i:4096<(Fm.m7 0 f t).abc
 ·rw[ee (by rw[gD];omega),ee i]
 ·rw[ea (by rw[gD];omega),ea i,vw a (by omega) g (Bd.lift ⟨c,d,by omega⟩) (by omega) (by omega)];rfl
def Ge{f:Fm}{s:Tm}(he:f.err=0)(b:s.err=0)(h:f.abg 536870912=true)(c:s.abg 536870912=true)(d:(Fm.m7 0 f s).ok=true):xw f 0 s=some (ot f s):=by
 obtain⟨a,hn⟩:=Fm.hZ he;obtain⟨e,g⟩:=Tm.hZ b;have hw:=f.jx a;have k:=s.jx e;have l:=s.eQ;have m:=f.iZ 0;have n:=Fm.rP s f 0 a;unfold xw ot;rw[mU (by omega),he];simp only[cl,eA,ne_eq,SO,pE,ey,lS,gD,l7,p8];rw[ea (by omega),mQ (by omega),b,FZ FU f _ (by rw[fy];omega) (by omega),h,B5 _ (by omega),c];simp only[cl,SO,pE,if_true,Pl,tp];rw[sh FU f (by rw[fy];omega) (by omega),GZ FU f 0 (by rw[fy];omega) (by omega) (by omega) (by omega),oe FU s (by rw[fy];omega) (by omega)];simp only[cl];rw[fG (by omega) (by omega)]
 have hmul:(f.abi 0:Int)*((s.abc:Int)-1)=((f.abi 0*s.abc:Nat):Int)-(f.abi 0:Int):=by rw[Tk,TD];push_cast;rfl
 have o:f.abi 0*s.abc<=4096*4096:=Fg (by omega) g;have i:f.abi 0<=f.abi 0*s.abc:=UU _ (by omega);rw[zM (by rw[hmul];omega) (by rw[hmul];omega),hmul,fu (by omega) (by omega)]
 by_cases j:4096<(Fm.m7 0 f s).abc
 ·rw[ee (by omega),ee j]
 ·rw[ea (by omega),ea j,Mn FU f 0 0 s (by rw[fy];omega) (by omega) (by omega) (by omega) (by omega) (Fm.mZ f (by omega) h) a (by omega) (Tm.mZ s (by omega) c)];simp only[cl,yu];have p:=Fm.jx _ d;rw[lK (by omega)];rfl
def zN{α:Type}{E:α->α->Option Bool}{m l:List α}(hlen:l.length=m.length)(h:∀x∈l,∀y,∃r,E x y=some r/\(r=true↔x=y)):∃o:Unit⊕Bool,ft (λ(j:Int) (x:α) (_:Unit)=>cv (eI m j) λy=>cv (E x y) λz=>if z=true then(some (gu.next ()):Option (gu Unit Bool))else some (gu.ret false)) l 0 ()=some o/\(o=.inl ()/\l=m\/o=.inr false/\l≠m):=by
 let p:α->α->Bool:=λx y=>(E x y).getD false
 have c:∀x∈l,∀y,E x y=some (p x y)/\(p x y=true↔x=y):=by
  intro x a y;obtain⟨r,d,b⟩:=h x a y
  have e:p x y=r:=by show(E x y).getD false=r;rw[d];rfl
  rw[e];exact⟨d,b⟩
 have key:=wL (F:=λ(j:Int) (x:α) (_:Unit)=>cv (eI m j) λy=>cv (E x y) λz=>if z=true then some (gu.next ())else some (gu.ret false)) p m l 0 m rfl hlen (by
  intro k x y a hy;rw[jJ,hy];simp only[cl];rw[(c x a y).1]
  rfl)
 have he:=xi p l m λx a y=>(c x a y).2;rw[key];cases b:vd p l m with
 |false=>rw[b] at he;exact⟨_,rfl,.inr ⟨rfl,λe=>absurd (he.2 e) (by simp)⟩⟩
 |true=>rw[b] at he;exact⟨_,rfl,.inl ⟨rfl,he.1 rfl⟩⟩
def Ap:∀(n:Nat) (a b:Fm),a.wt<=n->a.wt<=1000000000->∃r,kl n a b=some r/\(r=true↔a=b):=by
 intro n
 induction n with
 |zero=>intro t b h;have:=t.jt;omega
 |succ n q=>
  intro a b h u;cases a with
  |mk k s ts l=>
  cases b with
  |mk k' f us m=>
   rw[Fm.fI] at h u;have B:=Fm.oo l;have v:=Tm.oo ts;rw[kl];simp only[Fm.eG,Fm.eN,Fm.hU,Fm.fv,ey,eE (l:=l) (by omega),eE (l:=ts) (by omega),eo,eA,fO]
   have no:¬(k=k'/\s=f/\ts=us/\l=m)->∃r,some false=some r/\(r=true↔Fm.mk k s ts l=Fm.mk k' f us m):=by
    intro hn;refine⟨false,rfl,?_⟩;simp only[tp,Jl,Fm.mk.injEq];exact hn
   by_cases d:k≠k'
   ·rw[ee d,ee trivial];exact no λh=>d h.1
   ·rw[ea d];obtain⟨r,w,p⟩:=xk FU s f (by rw[fy];omega) (by omega);rw[w];simp only[cl]
    by_cases e:r=true
    ·have hs:=p.1 e;rw[ee e]
     by_cases g:(ts.length:Int)≠us.length
     ·rw[ee g,ee trivial];exact no λh=>g (by rw[h.2.2.1])
     ·rw[ea g]
      by_cases hm:(l.length:Int)≠m.length
      ·rw[ee hm];exact no λh=>hm (by rw[h.2.2.2])
      ·rw[ea hm];obtain⟨o,z,k2⟩:=zN (E:=λx y=>iU FU x y) (l:=ts) (m:=us) (by omega) (λx c y=>wX FU x y (by have:=eL Tm.wt c;rw[fy];omega) (by have:=eL Tm.wt c;omega));rw[z];rcases k2 with⟨rfl,i⟩|⟨rfl,i⟩
       ·simp only[cl,en];obtain⟨o,q1,A⟩:=zN (E:=λx y=>kl n x y) (l:=l) (m:=m) (by omega) (λx c y=>q x y (by have:=eL Fm.wt c;omega) (by have:=eL Fm.wt c;omega));rw[q1];rcases A with⟨rfl,j⟩|⟨rfl,j⟩
        ·exact⟨true,rfl,by simp only[Rw,Fm.mk.injEq];exact⟨y8.1 d,hs,i,j⟩⟩
        ·exact no λh=>j h.2.2.2
       ·exact no λh=>i h.2.2.1
    ·rw[ea e,ee trivial];exact no λh=>e (p.2 h.2.1)
def AK:∀(n:Nat) (a b:Fm),a.wt<=n->a.wt<=1000000000->∃r,nR n a b=some r/\(r=true↔a=b):=by
 intro n
 induction n with
 |zero=>intro t b h;have:=t.jt;omega
 |succ n u=>
  intro a b h v;cases a with
  |mk k s ts l=>
  cases b with
  |mk k' i us m=>
   rw[Fm.fI] at h v;have C:=Fm.oo l;have w:=Tm.oo ts;rw[nR];simp only[Fm.eG,Fm.eN,Fm.hU,Fm.fv,ey,eE (l:=l) (by omega),eo,eA,fO]
   have no:¬(k=k'/\s=i/\ts=us/\l=m)->∃r,some false=some r/\(r=true↔Fm.mk k s ts l=Fm.mk k' i us m):=by
    intro hn;refine⟨false,rfl,?_⟩;simp only[tp,Jl,Fm.mk.injEq];exact hn
   have c:∃r,qZ ts us=some r/\(r=true↔ts=us):=by
    unfold qZ;simp only[eA,fO,ey,eE (l:=ts) (by omega),eo]
    by_cases d:(ts.length:Int)≠us.length
    ·rw[ee d];exact⟨false,rfl,by simp only[tp,Jl];rintro rfl;exact d rfl⟩
    ·rw[ea d];obtain⟨o,z,k2⟩:=zN (E:=λx y=>kb FU x y) (l:=ts) (m:=us) (by omega) (λx e y=>AG FU x y (by have:=eL Tm.wt e;rw[fy];omega) (by have:=eL Tm.wt e;omega));rw[z];rcases k2 with⟨rfl,j⟩|⟨rfl,j⟩
     ·exact⟨true,rfl,by simpa using j⟩
     ·exact⟨false,rfl,by simpa using j⟩
   by_cases f:k≠k'
   ·rw[ee f,ee trivial];exact no λh=>f h.1
   ·rw[ea f,jb (by omega)];simp only[cl]
    by_cases g:s.nx i=true
    ·have hs:=(Ty.lX _ _).1 g;obtain⟨r,A,q⟩:=c;rw[ee g,A];simp only[cl]
     by_cases d:r=true
     ·rw[ee d]
      by_cases hm:(l.length:Int)≠m.length
      ·rw[ee hm];exact no λh=>hm (by rw[h.2.2.2])
      ·rw[ea hm];obtain⟨o,q1,B⟩:=zN (E:=λx y=>nR n x y) (l:=l) (m:=m) (by omega) (λx e y=>u x y (by have:=eL Fm.wt e;omega) (by have:=eL Fm.wt e;omega));rw[q1];rcases B with⟨rfl,p⟩|⟨rfl,p⟩
       ·exact⟨true,rfl,by simp only[Rw,Fm.mk.injEq];exact⟨y8.1 f,hs,q.1 d,p⟩⟩
       ·exact no λh=>p h.2.2.2
     ·rw[ea d,ee trivial];exact no λh=>d (q.2 h.2.2.1)
    ·rw[ea g,ee trivial];exact no λh=>g ((Ty.lX _ _).2 h.2.1)
def EA(l:List Ty)(t:Tm):Tm:=l.foldr (λs b=>.mk 2 0 s [b]) t
def RZ{l:List Ty}(n:l.length<=1000):∀(i m:Nat) (t:Tm),i<=l.length->i<m->oH ((P0 λ(b:Int) (c:Int) (v59:Int) (d:Int) (e:List Ty) (f:List Tm)=>
   if(tq b 0)=true then(
   cv (eI l b) λg=>
   some (.next ((fB .i64 b 1),2,0,g.aba,g.abb,[(Tm.mk c v59 (Ty.mk d e) f)])))
   else(some (.DQ (b,c,v59,d,e,f)))):(Int×Int×Int×Int×(List Ty)×(List Tm))->(Option (gu (Int×Int×Int×Int×(List Ty)×(List Tm)) (Tm)))) m ((i:Int)-1,t.aba,t.abd,t.dv.aba,t.dv.abb,t.abb)=some (.inl (-1,(EA (l.take i) t).aba,(EA (l.take i) t).abd,(EA (l.take i) t).dv.aba,(EA (l.take i) t).dv.abb,(EA (l.take i) t).abb))
 |0,m+1,t,_,_=>by
  rw[nP];simp only[P0];rw[ea (by rw[jk];omega)];rfl
 |i+1,m+1,t,hi,hm=>by
  rw[nP];simp only[P0];rw[ee (by rw[jk];omega),show((i+1:Nat):Int)-1=(i:Int) by omega,jJ,pW (by omega)];simp only[cl,fA];rw[fG (by omega) (by omega)]
  have p:Ty.mk (l[i]).aba (l[i]).abb=l[i]:=by cases l[i];rfl
  have o:Tm.mk t.aba t.abd (Ty.mk t.dv.aba t.dv.abb) t.abb=t:=by cases t with|mk k j s a=>cases s;rfl
  have h:=RZ n i m (.mk 2 0 l[i] [t]) (by omega) (by omega);rw[o];refine h.trans ?_;rw[VR,pW (by omega)];simp only[EA,YZ,Yj,List.foldr_cons,List.foldr_nil]
def yE(t:Tm)(l:List Ty)(b:l.length<=1000):uV t l=some (EA l t):=by
 unfold uV;simp only[ey];rw[fO,fG (by omega) (by omega)];have h:=RZ b l.length FU t (jh _) (Uq (by omega));rw[h,cl,List.take_length];generalize EA l t=r;cases r with|mk k j s a=>cases s;rfl
def BK(t a:Tm):rX t [a]=some (.mk 3 0 (.mk 0 []) [t,a]):=by cases t with|mk k j s l=>cases s;rfl
def JM(t a b:Tm):rX t [a,b]=some (.mk 3 0 (.mk 0 []) [.mk 3 0 (.mk 0 []) [t,a],b]):=by cases t with|mk k j s l=>cases s;rfl
def T9:Tm:=EA [.nat] (.mk 6 0 .nat [.mk 4 0 (.mk 0 []) [],EA [.nat,.nat] (.mk 1 1 (.mk 0 []) []),.mk 1 0 (.mk 0 []) []])
def HJ:vp=some T9:=by
 unfold vp nq rf iK yQ;simp only[p6,cl,yE _ _ (show[Ty.nat,Ty.nat].length<=1000 by decide),yE _ _ (show[Ty.nat].length<=1000 by decide)];rfl
def YT:Tm:=EA [.nat,.nat] (.mk 6 0 .nat [.mk 1 1 (.mk 0 []) [],EA [.nat,.nat] (.mk 3 0 (.mk 0 []) [T9,.mk 1 0 (.mk 0 []) []]),.mk 1 0 (.mk 0 []) []])
def Ju:wI=some YT:=by
 unfold wI nq zU iK yQ;simp only[HJ,p6,cl,BK,yE _ _ (show[Ty.nat,Ty.nat].length<=1000 by decide)];rfl
def Uy(a b:Tm):Fm:=.mk 1 (.mk 0 []) [.mk 3 0 (.mk 0 []) [.mk 3 0 (.mk 0 []) [YT,.mk 5 0 (.mk 0 []) [a]],b],.mk 4 0 (.mk 0 []) []] []
def Hk(a b:Tm):uP a b=some (Uy a b):=by
 unfold uP rf q3;simp only[Ju,cl,JM];rfl
def QK:∀x y:Fin 8,∃z:Fin 8,qA .u8 (x:Nat) (y:Nat)=(z:Nat)/\((z:Nat)%2=1↔(x:Nat)%2=1/\(y:Nat)%2=1):=by decide
def Tn:∀x y:Fin 8,∃z:Fin 8,xm .u8 (x:Nat) (y:Nat)=(z:Nat)/\((z:Nat)%2=1↔(x:Nat)%2=1\/(y:Nat)%2=1):=by decide
def Mk(b:Bool)(m:Int):Prop:=∃x:Fin 8,m=((x:Nat):Int)/\((x:Nat)%2=1↔b=true)
def Mk.and{a b:Bool}{x y:Int}(c:Mk a x)(hy:Mk b y):Mk (a&&b) (qA .u8 x y):=by
 obtain⟨x,rfl,d⟩:=c;obtain⟨y,rfl,e⟩:=hy;obtain⟨z,f,g⟩:=QK x y;exact⟨z,f,by rw[g,d,e,gL]⟩
def Mk.or{a b:Bool}{x y:Int}(c:Mk a x)(hy:Mk b y):Mk (a||b) (xm .u8 x y):=by
 obtain⟨x,rfl,d⟩:=c;obtain⟨y,rfl,e⟩:=hy;obtain⟨z,f,g⟩:=Tn x y;exact⟨z,f,by rw[g,d,e,p8]⟩
def Mk.one:Mk true 1:=⟨1,rfl,by decide⟩
def Mk.six:Mk false 6:=⟨6,rfl,by decide⟩
def Mk.four:Mk false 4:=⟨4,rfl,by decide⟩
def Mk.bit{b:Bool}{m:Int}(h:Mk b m):eW (qA .u8 m 1) 0=b:=by
 obtain⟨x,rfl,a⟩:=h
 have key:∀x:Fin 8,eW (qA .u8 ((x:Nat):Int) 1) 0=decide ((x:Nat)%2=1):=by decide
 rw[key x];cases b with
 |false=>exact Dw (λh=>by have:=a.1 h;cases this)
 |true=>exact vF (a.2 rfl)
def Fm.Wi{a:Fm}(d:a.ok=true)(c:a.aba=2\/a.aba=3):∃p q,a=.mk a.aba (.mk 0 []) [] [p,q]/\p.ok=true/\q.ok=true:=by
 refine Fm.pc (p:=λa=>a.aba=2\/a.aba=3->∃p q,a=.mk a.aba (.mk 0 []) [] [p,q]/\p.ok=true/\q.ok=true) ?_ ?_ ?_ a d c
 ·intro a b _ _ h;rcases h with h|h<;>cases h
 ·intro k a b _ e f _ _ _;exact⟨a,b,rfl,e,f⟩
 ·intro k s a c _ _ _ h;have h:k=2\/k=3:=h;omega
def Fm.YM{a:Fm}(d:a.ok=true)(e:a.aba=1):∃u v,a=.mk 1 (.mk 0 []) [u,v] []/\u.ok=true/\v.ok=true:=by
 refine Fm.pc (p:=λa=>a.aba=1->∃u v,a=.mk 1 (.mk 0 []) [u,v] []/\u.ok=true/\v.ok=true) ?_ ?_ ?_ a d e
 ·intro a b f g _;exact⟨a,b,rfl,f,g⟩
 ·intro k a b c _ _ _ _ h;have h:k=1:=h;omega
 ·intro k s a c _ _ _ h;have h:k=1:=h;omega
def Tm.U0{a:Tm}(e:a.ok=true)(f:a.aba=3):∃c d,a=.mk 3 0 .z [c,d]/\c.ok=true/\d.ok=true:=by
 refine Tm.pc (p:=λa=>a.aba=3->∃c d,a=.mk 3 0 .z [c,d]/\c.ok=true/\d.ok=true) ?_ ?_ ?_ ?_ ?_ ?_ ?_ ?_ ?_ ?_ ?_ ?_ ?_ a e f
 case refine_3=>intro a b g i _;exact⟨a,b,rfl,g,i⟩
 all_goals(intros;rename_i h;cases h)
def GQ{k:Int}{s:Ty}{a:Fm}(R:(Fm.mk k s [] [a]).ok=true)(hn:(Fm.mk k s [] [a]).abc<=1000000)(I:a.abg 1000000000000=true)(n:a.ok=true):∃b t q ok,tF (.mk k s [] [a])=some (b,t,q,ok)/\(ok=true->q.ok=true/\q.abc<a.abc/\q.abg 1000000000000=true):=by
 rw[Fm.ef] at hn;simp only[eC] at hn;have no:∃b t q ok,(some (false,(Tm.mk 0 0 (Ty.mk 0 []) []),(Fm.mk 0 (Ty.mk 0 []) [] []),false):Option (Bool×Tm×Fm×Bool))=some (b,t,q,ok)/\(ok=true->q.ok=true/\q.abc<a.abc/\q.abg 1000000000000=true):=⟨_,_,_,_,rfl,by simp⟩;unfold tF
 obtain⟨o,j,J,S⟩:∃o j,tG (eH (Fm.mk k s [] [a]).aba 4)=some (o,j)/\(j=2\/j=3):=by
  unfold tG
  split
  ·exact⟨_,_,rfl,.inr rfl⟩
  ·exact⟨_,_,rfl,.inl rfl⟩
 rw[J,eb];simp only[ey]
 by_cases E:eW (Fm.mk k s [] [a]).aba o=true
 ·rw[ee E,ee trivial];exact no
 rw[ea E]
 by_cases F:eW (Fm.mk k s [] [a]).dv.aba 1=true
 ·rw[ee F,ee trivial];exact no
 rw[ea F];simp only[Fm.eG,eU,js,cl]
 by_cases c3:eW a.aba j=true
 ·rw[ee c3,ee trivial];exact no
 rw[ea c3]
 have w:a.aba=2\/a.aba=3:=by
  have:a.aba=j:=by simpa[eW] using c3
  omega
 obtain⟨p,q,e,G,K⟩:=Fm.Wi n w;have x:a.abb=[p,q]:=(congrArg Fm.abb e).trans rfl
 have L:a.abc=1+p.abc+q.abc:=by rw[e,Fm.ef];simp[eC];omega
 have l:p.abg 1000000000000=true/\q.abg 1000000000000=true:=by
  have f:=I;rw[e,Fm.fT] at f;simp only[EK,xd,Ai,z8,gL] at f;exact f
 have M:=p.eQ;rw[x];simp only[eU,gx,js,m4,cl]
 by_cases y:eW p.aba 1=true
 ·rw[ee y];exact no
 rw[ea y]
 have z:p.aba=1:=by simpa[eW] using y
 obtain⟨u,v,g,hu,T⟩:=Fm.YM G z;have A:p.ek=[u,v]:=(congrArg Fm.ek g).trans rfl
 have h:u.abg 1000000000000=true:=by
  have:=l.1;rw[g,Fm.fT] at this;simp only[xd,gL] at this;exact this.1.1
 have N:p.abc=1+u.abc+v.abc:=by rw[g,Fm.ef];simp[eC];omega
 rw[A];simp only[eU,js,cl]
 by_cases c5:eW u.aba 3=true
 ·rw[ee c5,ee trivial];exact no
 rw[ea c5]
 have B:u.aba=3:=by simpa[eW] using c5
 obtain⟨c,d,i,U,O⟩:=Tm.U0 hu B;have C:u.abb=[c,d]:=(congrArg Tm.abb i).trans rfl
 have P:u.abc=1+c.abc+d.abc:=by rw[i,Tm.ef];simp[eC];omega
 have D:d.abg 1000000000000=true:=by
  rw[i,Tm.fT] at h;simp only[xd,gL] at h;exact h.2.2.1
 rw[C];simp only[gx,m4,js,cl];rw[AD 0 ⟨O,D,by omega⟩,cl];have yes:∃b t m ok,(some (eH (Fm.mk k s [] [a]).aba 4,d,q,true):Option (Bool×Tm×Fm×Bool))=some (b,t,m,ok)/\(ok=true->m.ok=true/\m.abc<a.abc/\m.abg 1000000000000=true):=⟨_,_,_,_,rfl,λ_=>⟨K,by omega,l.2⟩⟩
 by_cases H:nS (d.abi 0:Int) 0=true
 ·rw[ee H,ee trivial];exact no
 rw[ea H];have hw:=p.jx G;obtain⟨r,Q,_⟩:=Ap FU p (Uy (.mk 1 0 (.mk 0 []) []) d) (by rw[fy];omega) (by omega);rw[show iK 0=some (Tm.mk 1 0 (.mk 0 []) [])from rfl,cl,Hk,cl,Q,cl];cases r with
 |true=>rw[show nC true=false from rfl,ea (by decide)];exact yes|false=>rw[show nC false=true from rfl,ee rfl];exact no
def LS:∀(n:Nat) (f:Fm),f.abc<=n->f.abc<=1000000->f.ok=true->f.abg 1000000000000=true->∃m,nu n f=some m/\Mk f.has m:=by
 intro n
 induction n with
 |zero=>intro f h;have:=f.eQ;omega
 |succ n w=>
  intro f hn e x c;refine Fm.pc (p:=λf=>f.abc<=n+1->f.abc<=1000000->f.ok=true->f.abg 1000000000000=true->∃m,nu (n+1) f=some m/\Mk f.has m) ?_ ?_ ?_ f x hn e x c
  ·intro a b _ _ _ _ _ _;rw[nu,ee (by rfl)];exact⟨6,rfl,by rw[Fm.has_eq];exact Mk.six⟩
  ·intro k a b y z B _ _ hn e _ c;rw[Fm.ef] at hn e;simp only[eC] at hn e;rw[Fm.fT] at c;simp only[EK,xd,Ai,z8,gL] at c;obtain⟨A,C,r⟩:=w a (by omega) (by omega) z c.1;obtain⟨j,D,u⟩:=w b (by omega) (by omega) B c.2
   have d:k≠1:=by omega
   have E:fU (eH k 2) true (eH k 3)=true:=by rcases y with rfl|rfl<;>rfl
   rw[nu,ea (show¬eH (Fm.mk k (.mk 0 []) [] [a,b]).aba 1=true by simpa[eH] using d)]
   have F:eI [a,b] (fB .i64 (eM [a,b]) 1)=some b:=by rw[fG (by simp) (by simp)];rfl
   simp only[Fm.eG,F,cl,D,ey];rw[ee (show fU (eH (Fm.mk k (.mk 0 []) [] [a,b]).aba 2) true (eH (Fm.mk k (.mk 0 []) [] [a,b]).aba 3)=true from E)];simp only[eU,js,cl,C,Fm.eN];refine⟨_,rfl,?_⟩;rw[Fm.NZ,ea d];have l:=(r.and u).and Mk.six;rw[Bool.and_false] at l;rcases y with rfl|rfl
   ·rw[show fU (eH 2 2) (xm .u8 j A) j=xm .u8 j A from rfl];have g:=(u.or r).and Mk.one;rw[Ai] at g;have:=l.or g;rw[KL,Bool.or_comm] at this;simpa using this
   ·rw[show fU (eH 3 2) (xm .u8 j A) j=j from rfl];have g:=u.and Mk.one;rw[Ai] at g;have:=l.or g;rw[KL] at this;simpa using this
  ·intro k s a y hs z _ hn e x c;have G:=e;rw[Fm.ef] at hn e;simp only[eC] at hn e;rw[Fm.fT] at c;simp only[EK,xd,Ai,z8] at c;obtain⟨A,C,r⟩:=w a (by omega) (by omega) z c
   have d:k≠1:=by omega
   have E:fU (eH k 2) true (eH k 3)=false:=by rcases y with rfl|rfl|rfl|rfl<;>rfl
   rw[nu,ea (show¬eH (Fm.mk k s [] [a]).aba 1=true by simpa[eH] using d)]
   have F:eI [a] (fB .i64 (eM [a]) 1)=some a:=by rw[fG (by simp) (by simp)];rfl
   simp only[Fm.eG,F,cl,C,ey];rw[ea (show¬fU (eH (Fm.mk k s [] [a]).aba 2) true (eH (Fm.mk k s [] [a]).aba 3)=true by rw[show fU (eH (Fm.mk k s [] [a]).aba 2) true (eH (Fm.mk k s [] [a]).aba 3)=false from E];decide)];obtain⟨b,t,q,ok,L,M⟩:=GQ x G c z;rw[L]
   have fin:∀(v:Int) (K:Mk (Fm.mk k s [] [a]).has v),∃m,(Ob (some (b,t,q,ok)) λN O H I=>if I=true then(cv (nu n H) λo=>some (xm .u8 (qA .u8 v 1) (qA .u8 o 4)))else(some (qA .u8 v 1)))=some m/\Mk (Fm.mk k s [] [a]).has m:=by
    intro v K;show∃m,(if ok=true then(cv (nu n q) λo=>some (xm .u8 (qA .u8 v 1) (qA .u8 o 4)))else(some (qA .u8 v 1)))=some m/\Mk (Fm.mk k s [] [a]).has m;have l:=K.and Mk.one;rw[Ai] at l;cases ok with
    |false=>exact⟨_,rfl,l⟩|true=>
     obtain⟨d1,d2,d3⟩:=M rfl;obtain⟨j,D,u⟩:=w q (by omega) (by omega) d1 d3;rw[ee rfl,D];refine⟨_,rfl,?_⟩;have g:=u.and Mk.four;rw[Bool.and_false] at g;have:=l.or g
     rwa [Bool.or_false] at this
   have i:(Fm.mk k s [] [a]).has=if k=5 then true else a.has:=by
    rw[Fm.E4,ea d]
   by_cases J:k=5
   ·subst J;rw[ee (by rfl)];refine fin _ ?_;rw[i,ee rfl];have:=r.or Mk.one
    rwa [Bool.or_true] at this
   ·rw[ea (show¬eH (Fm.mk k s [] [a]).aba 5=true by simpa[eH] using J)];refine fin _ ?_;rw[i,ea J];exact r
def DJ{f:Fm}(hw:f.wt<=1000000000)(b:f.abg 1000000000000=true):px f=some (if f.err≠0 then(false,f.err)else(f.has,0)):=by
 unfold px zV;rw[ow hw,cl]
 by_cases he:f.err=0
 ·obtain⟨a,hn⟩:=Fm.hZ he;obtain⟨m,c,d⟩:=LS FU f (by have:=fy;omega) (by omega) a b;rw[ea (by rw[eA];simpa using he),c,cl,d.bit,eb,ea (by simpa using he)]
 ·rw[ee (by rw[eA];exact he),eb,ee he]
def nd{α:Type}(m:List (Int×α)):List Int:=m.map (·.1)
def Cq{α:Type}(k:Int)(v:α):∀(m:List (Int×α)) (x:Int),x∈nd (uo m k v)↔x=k\/x∈nd m
 |[],x=>by simp[uo,nd]|p::m,x=>by
  unfold uo
  by_cases h:p.1=k
  ·rw[ee h];subst h;simp[nd]
  ·rw[ea h];have a:=Cq k v m x;simp only[nd,zf,lF] at a|-;rw[a];constructor
   ·rintro(h|h|h)
    ·exact .inr (.inl h)
    ·exact .inl h
    ·exact .inr (.inr h)
   ·rintro(h|h|h)
    ·exact .inr (.inl h)
    ·exact .inl h
    ·exact .inr (.inr h)
def Bc{α:Type}(k:Int)(v:α):∀(m:List (Int×α)),(nd m).Nodup->(nd (uo m k v)).Nodup
 |[],_=>by simp[uo,nd]|p::m,h=>by
  have b:p.1∉nd m/\(nd m).Nodup:=Su.1 h;unfold uo
  by_cases a:p.1=k
  ·rw[ee a];subst a;exact h
  ·rw[ea a];refine Su.2 ⟨λhm=>?_,Bc k v m b.2⟩;rcases(Cq k v m p.1).1 hm with e|e
   ·exact a e
   ·exact b.1 e
def GS{α:Type}(k:Int)(v:α):∀(m:List (Int×α)),(uo m k v).length<=m.length+1
 |[]=>by simp[uo]|p::m=>by
  unfold uo
  split
  ·simp
  ·have:=GS k v m;simp only[lL];omega
def LA(n:Int):∀l:List Int,(A6 n l).length=l.length+1
 |[]=>rfl|a::l=>by
  unfold A6
  split
  ·rfl
  ·simp[LA n l]
def I3:∀(l acc:List Int),(yj acc l).length=acc.length+l.length
 |[],acc=>by simp[yj]|a::l,acc=>by rw[yj,I3 l,LA];simp only[lL];omega
def H_:∀(n:Nat) (t:Tm) (d:Int) (m:List (Int×Bool)),t.abc<=n->t.abc<=100000000->0<=d->d+t.abc<=1000000000->t.abg 4611686018427387904=true->(nd m).Nodup->∃q,qc n t d m=some q/\(nd q).Nodup/\q.length<=m.length+t.abc/\∀x,x∈nd q↔x∈nd m\/(0<=x/\0<t.abi (x+d)):=by
 intro n
 induction n with
 |zero=>intro t d m h;have:=t.eQ;omega
 |succ n J=>
  intro t d m hn w K L C hm;cases t with
  |mk k i s l=>
   have D:=ly k;rw[Tm.ef] at hn w L;have hlen:=iu Tm.abc l λt _=>t.eQ;rw[Tm.fT,gL,ni,k4] at C
   have abb:∀(F:Int->Tm->List (Int×Bool)->Option (gu (List (Int×Bool)) (List (Int×Bool)))),(∀j x v,F j x v=cv (lN (Tm.mk k i s l)) λb=>cv (qc n x (fj .i64 d b) v) λr=>some (.next r))->∀(as:List Tm) (j:Nat) (v:List (Int×Bool)),(∀a∈as,a∈l)->(nd v).Nodup->∃e,ft F as j v=some (.inl e)/\(nd e).Nodup/\e.length<=v.length+eC Tm.abc as/\∀x,x∈nd e↔x∈nd v\/(0<=x/\0<eC (Tm.abi (x+d+gC k)) as):=by
    intro F hF as
    induction as with
    |nil=>intro j v _ y;exact⟨v,rfl,y,by simp[eC],λx=>by simp[eC]⟩|cons a as z=>
     intro j v has y;have E:=has a (by simp);have M:=eL Tm.abc E;have A:=C.2 a E;obtain⟨v1,f,g,G,o⟩:=J a (d+gC k) v (by omega) (by omega) (by omega) (by omega) A y;obtain⟨v2,g1,g2,g3,g4⟩:=z (j+1) v1 (λb w=>has b (by simp[w])) g;refine⟨v2,?_,g2,by simp only[eC];omega,λx=>?_⟩
     ·rw[fm,hF,ou];simp only[cl,Tm.eN];rw[fu (by omega) (by omega),f];simp only[cl,fA];exact g1
     ·rw[g4,o];simp only[eC];rw[<-Int.add_assoc];constructor
      ·rintro((h|h)|h)
       ·exact .inl h
       ·exact .inr ⟨h.1,by omega⟩
       ·exact .inr ⟨h.1,by omega⟩
      ·rintro(h|⟨h,u⟩)
       ·exact .inl (.inl h)
       ·by_cases N:0<a.abi (x+d+gC k)
        ·exact .inl (.inr ⟨h,N⟩)
        ·exact .inr ⟨h,by omega⟩
   unfold qc;simp only[ey,Tm.eG,eE (l:=l) (by omega),eo,Tm.eN,Tm.gy];rw[Tm.ef]
   by_cases p:k=1/\d<=i
   ·have c:fU (eH k 1) (tq i d) false=true:=by simp[fU,p.1,p.2]
    simp only[c,if_true];rw[fG (by omega) (by omega)];obtain⟨e,f,g,G,o⟩:=abb _ (λ_ _ _=>rfl) l 0 (uo m (i-d) true) (λa h=>h) (Bc _ _ _ hm);refine⟨e,by rw[f];rfl,g,by have:=GS (i-d) true m;omega,λx=>?_⟩;rw[o,Cq,Tm.gU];constructor
    ·rintro((h|h)|h)
     ·exact .inr ⟨by omega,by rw[ee ⟨p.1,by omega⟩];omega⟩
     ·exact .inl h
     ·exact .inr ⟨h.1,by omega⟩
    ·rintro(h|⟨h,u⟩)
     ·exact .inl (.inr h)
     ·by_cases H:x=i-d
      ·exact .inl (.inl H)
      ·rw[ea (λI=>H (by omega))] at u;exact .inr ⟨h,by omega⟩
   ·have c:fU (eH k 1) (tq i d) false=false:=by
     unfold fU
     split
     ·rename_i O
      have B:k=1:=by simpa using O
      simp only[tq,Th]
      exactλh=>p ⟨B,h⟩
     ·rfl
    simp only[c,tp,pE];obtain⟨e,f,g,G,o⟩:=abb _ (λ_ _ _=>rfl) l 0 m (λa h=>h) hm;refine⟨e,by rw[f];rfl,g,by omega,λx=>?_⟩;rw[o,Tm.gU];constructor
    ·rintro(h|h)
     ·exact .inl h
     ·exact .inr ⟨h.1,by omega⟩
    ·rintro(h|⟨h,u⟩)
     ·exact .inl h
     ·rw[ea (λI=>p ⟨I.1,by omega⟩)] at u;exact .inr ⟨h,by omega⟩
def G7{t:Tm}(hw:t.wt<=1000000000)(d:t.abg 4611686018427387904=true)(he:t.err=0):∃l,vb t=some (l,0)/\Bk l/\l.length<=4096/\∀x,x∈l↔0<=x/\0<t.abi x:=by
 have hn:t.abc<=4096:=by
  unfold Tm.err at he
  split at he
  ·split at he
   ·cases he
   ·omega
  ·cases he
 obtain⟨m,e,c,f,g⟩:=H_ FU t 0 [] (by rw[fy];omega) (by omega) (by omega) (by omega) d (by simp[nd])
 have a:(m.map (·.1)).Nodup:=c
 have b:m.length<=4096:=by simpa using B4 f (by simpa using hn)
 refine⟨yj [] (nd m),?_,zI _ [] .nil c (by simp),?_,λx=>?_⟩
 ·unfold vb;rw[mQ hw,he];simp only[cl];rw[ea (by decide),e];simp only[cl];unfold qK
  rw[eE (by omega),eo,show xg (m.map (·.1))=true from by simp[xg,a],eo]
  rfl
 ·rw[I3];simp[nd,b]
 ·rw[zO,g];simp[nd]
def E_{n:Int}(a:0<=n)(b:n<4294967296):IntKind.u32.wrap n=n:=by
 unfold IntKind.wrap;simp only[show IntKind.u32.bits=32 from rfl,show IntKind.u32.signed=false from rfl,UQ,tp,pE,show((2:Int)^32)=4294967296 from rfl];omega
def JC(a:Nat):BitVec.ofInt 32 (a:Int)=BitVec.ofNat 32 a:=by simp
def Kb{a b:Nat}(d:a<4294967296)(e:b<4294967296):xm .u32 (a:Int) (b:Int)=((a|||b:Nat):Int):=by
 unfold xm;have c:a|||b<2^32:=Wb (by omega) (by omega);rw[show IntKind.u32.bits=32 from rfl,JC,JC,BitVec.toNat_or,SG,SG,RG (by omega),RG (by omega)];exact E_ (by omega) (by omega)
def L5{a b:Nat}(d:a<4294967296)(e:b<4294967296):qA .u32 (a:Int) (b:Int)=((a&&&b:Nat):Int):=by
 unfold qA;have c:a&&&b<2^32:=Ye _ (by omega);rw[show IntKind.u32.bits=32 from rfl,JC,JC,BitVec.toNat_and,SG,SG,RG (by omega),RG (by omega)];exact E_ (by omega) (by omega)
def QP{k:Nat}(b:k<32):QN .u32 1 (k:Int)=((2^k:Nat):Int):=by
 unfold QN;rw[show IntKind.u32.bits=32 from rfl,As,Qh (by omega),Int.one_mul];have a:2^k<2^32:=TM (by decide) b;rw[show((2:Int)^k)=((2^k:Nat):Int) by push_cast;rfl];exact E_ (WE _) (Int.ofNat_lt.2 (XM a rfl))
def QJ{a k:Nat}(b:k<=32):RF .u32 (a:Int) (k:Int)=((a/2^k:Nat):Int):=by
 unfold RF;rw[show IntKind.u32.bits=32 from rfl,As,Qh b];rw[show((2:Int)^k)=((2^k:Nat):Int) by push_cast;rfl];rw[Int.fdiv_eq_ediv_of_nonneg _ (WE _)];rfl
structure Us (l:List Int) (m:Nat):Prop where
 lt:m<4294967296
 pos:∀x∈l,0<=x
 UH:Bk l
 mem:∀i:Nat,(i:Int)∈l↔m.testBit i=true
def Us.nil:Us [] 0:=⟨by decide,by simp,by first|exact .nil|trivial|simp[Bk],by simp⟩
def C9{i b:Int}{m:Nat}(hm:m<4294967296)(g:0<=i)(l:i<=1000000000000)(o:0<=b)(p:b<=1000000000)(q:i-b<32):∃c:Nat,nX i b (m:Int)=some (c:Int)/\c<4294967296/\∀j:Nat,c.testBit j=true↔m.testBit j=true\/i=j+b:=by
 unfold nX
 by_cases h:b<=i
 ·rw[ee (by rw[jk];exact h),fG (by omega) (by omega),show Iq (i-b)=true by simp[Iq];omega,eo];obtain⟨k,f⟩:∃k:Nat,i-b=(k:Int):=⟨(i-b).toNat,by omega⟩
  have a:k<32:=by omega
  have d:2^k<4294967296:=XM (TM (by decide) a) rfl;rw[f,QP a,Kb hm d];refine⟨m|||2^k,rfl,Wb (n:=32) (by omega) (by omega),λj=>?_⟩;rw[SS,p8,Tc,MO];constructor
  ·rintro(h|h)
   ·exact .inl h
   ·exact .inr (by omega)
  ·rintro(h|h)
   ·exact .inl h
   ·exact .inr (by omega)
 ·rw[ea (by rw[jk];exact h)];exact⟨m,rfl,hm,λj=>⟨.inl,λe=>e.elim id λe=>absurd e (by omega)⟩⟩
def G2:∀(n:Nat) (t:Tm) (b:Int) (m:Nat),t.abc<=n->t.abc<=1000000->t.ok=true->t.abg 1000000000000=true->0<=b->b+t.abc<=1000000000->m<4294967296->(∀j:Int,32<=j->t.abi (j+b)=0)->∃g:Nat,jM n t b (λ(s:Int) (o:Int) (p:Int)=>nX o p s) (m:Int)=some (g:Int)/\g<4294967296/\∀j:Nat,g.testBit j=true↔m.testBit j=true\/0<t.abi (j+b):=by
 intro n
 induction n with
 |zero=>intro t b m h;have:=t.eQ;omega
 |succ n L=>
  intro t b m hn M N r O w hm c;cases t with
  |mk k i s l=>
   rw[Tm.ef] at hn M w;have hlen:=Tm.fQ l;have hi:=Tm.l6 N;rw[Tm.fT,gL,MO,k4] at r;have P:=ly k;rw[jM];simp only[ey]
   have x:∀j:Int,32<=j->∀t∈l,t.abi (j+(b+gC k))=0:=by
    intro j y t Q;have z:=c j y;rw[Tm.gU] at z;have V:=eL (Tm.abi (j+b+gC k)) Q;rw[show j+(b+gC k)=j+b+gC k by omega];omega
   have loop:∀(ts:List Tm) (j:Nat) (v:Nat),(∀t∈ts,t∈l)->v<4294967296->∃A:Nat,ft (λ(R:Int) (B:Tm)=>(λ(v28:Int)=>
      cv (jM n B (b+gC k) (λ(s:Int) (o:Int) (p:Int)=>nX o p s) v28) λC=>
      some ((.next C):gu Int Int))) ts j (v:Int)=some (.inl (A:Int))/\A<4294967296/\∀q:Nat,A.testBit q=true↔v.testBit q=true\/0<eC (Tm.abi (q+b+gC k)) ts:=by
    intro ts
    induction ts with
    |nil=>intro j v _ D;exact⟨v,by simp,D,λq=>by simp[eC]⟩|cons t ts E=>
     intro j v d D;have a:=d t (by simp);have S:=eL Tm.abc a;obtain⟨v1,F,G,H⟩:=L t (b+gC k) v (by omega) (by omega) (hi.2.2.2.1 t a) (r.2 t a) (by omega) (by omega) D (λj y=>x j y t a);obtain⟨v2,f1,f2,f3⟩:=E (j+1) v1 (λu hu=>d u (by simp[hu])) G;refine⟨v2,?_,f2,λq=>?_⟩
     ·rw[fm,F];simp only[cl,fA];exact f1
     ·rw[f3,H];simp only[eC];rw[show(q:Int)+(b+gC k)=q+b+gC k by omega];constructor
      ·rintro((h|h)|h)
       ·exact .inl h
       ·exact .inr (by omega)
       ·exact .inr (by omega)
      ·rintro(h|h)
       ·exact .inl (.inl h)
       ·by_cases T:0<t.abi (q+b+gC k)
        ·exact .inl (.inr T)
        ·exact .inr (by omega)
   by_cases I:k=1
   ·subst I;rw[ee (show eH (Tm.mk 1 i s l).aba 1=true from rfl)];simp only[Tm.eG,Tm.eN,Tm.gy]
    have J:i-b<32:=by
     rcases Int.lt_or_le (i-b) 32 with h|h
     ·exact h
     ·have z:=c (i-b) h;rw[Tm.gU,ee ⟨rfl,by omega⟩] at z;omega
    obtain⟨U,F,G,H⟩:=C9 hm hi.2.1 r.1 O (by omega) J;rw[F,cl,wP 1 b (by omega) (by omega),eE (by omega),eo];obtain⟨K,f1,f2,f3⟩:=loop l 0 U (λt h=>h) G;refine⟨K,?_,f2,λq=>?_⟩
    ·have e:=f1;rw[show((0:Nat))=0 from rfl] at e;rw[e,cl];rfl
    ·rw[f3,H,Tm.gU]
     by_cases f:i=q+b
     ·rw[ee ⟨rfl,f⟩];exact⟨λ_=>.inr (by omega),λ_=>.inl (.inr f)⟩
     ·rw[ea (λh=>f h.2),vt];exact⟨λh=>h.elim (λh=>h.elim .inl λh=>absurd h f) .inr,λh=>h.elim (λh=>.inl (.inl h)) .inr⟩
   ·rw[ea (show¬eH (Tm.mk k i s l).aba 1=true by simpa[eH] using I)];simp only[Tm.eG,Tm.eN,Tm.gy];rw[wP k b (by omega) (by omega),eE (by omega),eo];obtain⟨K,f1,f2,f3⟩:=loop l 0 m (λt h=>h) hm;refine⟨K,by rw[f1,cl];rfl,f2,λq=>?_⟩;rw[f3,Tm.gU,ea (λh=>I h.1),vt]
def S8{t:Tm}(he:t.err=0)(b:t.abg 1000000000000=true)(c:∀j:Int,32<=j->t.abi j=0):∃(l:List Int) (m:Nat),kr t=some (m:Int)/\kP t=some l/\Us l m/\∀x,x∈l↔0<=x/\0<t.abi x:=by
 obtain⟨a,hn⟩:=Tm.hZ he;have hw:=t.jx a;obtain⟨m,d,e,f⟩:=G2 FU t 0 0 (by have:=fy;omega) (by omega) a b (by omega) (by omega) (by decide) (λj g=>by rw[yu];exact c j g);obtain⟨l,g1,g2,_,g4⟩:=G7 (t:=t) (by omega) (Tm.mZ t (by omega) b) he;refine⟨l,m,?_,by unfold kP;rw[g1];rfl,⟨e,λx h=>((g4 x).1 h).1,g2,λi=>?_⟩,g4⟩
 ·unfold kr rH;rw[show(0:Int)=((0:Nat):Int)from rfl] at*;rw[d];rfl
 ·rw[g4,f,yu];simp
def s8(v:List (Int×Bool))(l:List Int):List (Int×Bool):=l.foldl (λv x=>uo v x true) v
def xK:∀(l:List Int) (v:List (Int×Bool)),(nd v).Nodup->(nd (s8 v l)).Nodup/\(s8 v l).length<=v.length+l.length/\∀x,x∈nd (s8 v l)↔x∈nd v\/x∈l
 |[],v,h=>⟨h,by simp[s8],λx=>by simp[s8]⟩|y::l,v,h=>by
  obtain⟨a,c,b⟩:=xK l (uo v y true) (Bc y true v h);refine⟨a,?_,λx=>?_⟩
  ·have:=GS y true v;show(s8 (uo v y true) l).length<=_;rw[lL];omega
  ·show x∈nd (s8 (uo v y true) l)↔_;rw[b,Cq,lF];constructor
   ·rintro((h|h)|h)
    ·exact .inr (.inl h)
    ·exact .inl h
    ·exact .inr (.inr h)
   ·rintro(h|h|h)
    ·exact .inl (.inr h)
    ·exact .inl (.inl h)
    ·exact .inr h
def Ff{ρ:Type}:∀(l:List Int) (j:Nat) (v:List (Int×Bool)),ft (λ(c:Int) (a:Int)=>(λ(b:(List (Int×Bool)))=>some ((.next (uo b a true)):gu (List (Int×Bool)) ρ))) l j v=some (.inl (s8 v l))
 |[],j,v=>by rw[pe];rfl|x::l,j,v=>by
  rw[fm];simp only[cl,fA];exact Ff l (j+1) (uo v x true)
def Gk{a b:List Int}(f:a.length<=1000000)(g:b.length<=1000000):∃l,gK a b=some l/\Bk l/\∀x,x∈l↔x∈a\/x∈b:=by
 obtain⟨c,d,e⟩:=xK a [] (by simp[nd]);obtain⟨g1,g2,g3⟩:=xK b (s8 [] a) c;refine⟨yj [] (nd (s8 (s8 [] a) b)),?_,zI _ _ .nil g1 (by simp),λx=>?_⟩
 ·unfold gK;simp only[ey];rw[eE (by omega),eo];rw[Ff a 0 [],cl,en,eE (by omega),eo,Ff b 0 _,cl,en];unfold qK;simp only[wE] at d;rw[eE (by omega),eo,show xg (List.map (λx=>x.1) (s8 (s8 [] a) b))=true from vF g1,eo];rfl
 ·rw[zO,g3,e];simp[nd]
def Us.union{a b:List Int}{m n:Nat}(c:Us a m)(d:Us b n)(e:a.length<=1000000)(f:b.length<=1000000):∃l,gK a b=some l/\xm .u32 (m:Int) (n:Int)=((m|||n:Nat):Int)/\Us l (m|||n)/\∀x,x∈l↔x∈a\/x∈b:=by
 obtain⟨l,j,k,g⟩:=Gk e f;refine⟨l,j,Kb c.lt d.lt,⟨Wb (n:=32) (by have:=c.lt;omega) (by have:=d.lt;omega),λx o=>?_,k,λi=>?_⟩,g⟩
 ·rcases(g x).1 o with h|h
  ·exact c.pos x h
  ·exact d.pos x h
 ·rw[g,c.mem,d.mem,SS,p8]
def Us.bound{l:List Int}{m:Nat}(h:Us l m):∀x∈l,x<32:=by
 intro x a;have b:=h.pos x a;obtain⟨k,rfl⟩:=VS b;have:=(h.mem k).1 a;rcases sA k 32 with h1|h1
 ·omega
 ·exfalso;have c:m<2^k:=Pt h.lt (B4 (by decide:4294967296<=2^32) (Nat.pow_le_pow_right (by decide) h1));rw[Nat.testBit_lt_two_pow c] at this;cases this
def xa(k:Int)(l:List Int):List Int:=(l.filter λx=>decide (k<=x)).map λx=>x-k
def Fo{k:Int}(e:0<=k)(c:k<=1000):∀(l:List Int) (j:Nat) (v:List Int),(∀x∈l,0<=x/\x<32)->v.length+l.length<=1000000->ft (λ(f:Int) (a:Int)=>(λ(b:List Int)=>
   if(tq a k)=true then(
   g_ (gf b [(fB .i64 a k)])<|some ((.next (gv b [(fB .i64 a k)])):gu (List Int) (List Int)))
   else(some (.next b)))) l j v=some (.inl (v++xa k l))
 |[],j,v,_,_=>by simp[xa]|x::l,j,v,h,g=>by
  simp only[lL] at g;have i:=h x (by simp);rw[fm]
  by_cases d:k<=x
  ·rw[ee (by rw[jk];exact d),fl (by simp;omega),eo,fG (by omega) (by omega)];simp only[cl,fA];rw[gG,Fo e c l (j+1) _ (λy hy=>h y (by simp[hy])) (by simp;omega)];simp[xa,d]
  ·rw[ea (by rw[jk];exact d)];simp only[cl,fA];rw[Fo e c l (j+1) v (λy hy=>h y (by simp[hy])) (by omega)];simp[xa,d]
def CT{l:List Int}{m:Nat}(h:Us l m)(d:l.length<=1000000){k:Int}(c:0<=k)(a:k<=1000):gQ l k=some (xa k l):=by
 unfold gQ;simp only[ey];rw[eE (by omega),eo,Fo c a l 0 [] (λx b=>⟨h.pos x b,h.bound x b⟩) (by simp;omega),cl,en,oh]
def Gd(k:Int)(l:List Int)(x:Int):x∈xa k l↔x+k∈l/\0<=x:=by
 unfold xa;simp only[od,Qv,MO];constructor
 ·rintro⟨y,⟨a,b⟩,rfl⟩;exact⟨by rw[Int.sub_add_cancel];exact a,by omega⟩
 ·rintro⟨a,b⟩;exact⟨x+k,⟨a,by omega⟩,by omega⟩
def KA(k:Int):∀{l:List Int},Bk l->Bk (xa k l)
 |[],_=>.nil|a::l,.cons f g=>by
  have c:=KA k g
  by_cases d:k<=a
  ·have e:xa k (a::l)=(a-k)::xa k l:=by simp[xa,d]
   rw[e];refine .cons (λb h=>?_) c;have:=f _ ((Gd k l b).1 h).1;omega
  ·have e:xa k (a::l)=xa k l:=by simp[xa,d]
   rw[e];exact c
def Us.out{l:List Int}{m:Nat}(h:Us l m)(a:l.length<=1000000){k:Nat}(b:k<=32):gQ l (k:Int)=some (xa k l)/\fJ (m:Int) (k:Int)=some ((m/2^k:Nat):Int)/\Us (xa k l) (m/2^k):=by
 refine⟨CT h a (by omega) (by omega),?_,⟨Zv (Nat.div_le_self _ _) h.lt,λx c=>((Gd _ _ _).1 c).2,KA _ h.UH,λi=>?_⟩⟩
 ·unfold fJ;rw[show Iq (k:Int)=true by simp[Iq],eo,QJ b]
 ·rw[Gd,show(i:Int)+(k:Int)=((i+k:Nat):Int) by omega,h.mem]
  have e:(m/2^k).testBit i=m.testBit (i+k):=by rw[Nat.testBit_div_two_pow]
  rw[e];exact⟨λh=>h.1,λh=>⟨h,by omega⟩⟩
def Tm.up_add(f b c:Int)(j:0<=b):∀(t:Tm) (d:Int),(t.up (f+d) b).up (f+d) c=t.up (f+d) (b+c):=by
 intro t
 induction t using Tm.ind with
 |h k i s l e=>
  intro d;rw[Tm.l0,Tm.l0,Tm.l0]
  congr 1
  ·by_cases a:k=1/\f+d<=i
   ·rw[ee a,ee ⟨a.1,by omega⟩];omega
   ·rw[ea a,ea a,ea a]
  ·rw[Qz]
   exact xx λx g=>by
    have:=e x g (d+gC k);rw[show f+(d+gC k)=f+d+gC k by omega] at this;exact this
def Fm.up_add(f b c:Int)(a:0<=b):∀(t:Fm) (d:Int),(t.up (f+d) b).up (f+d) c=t.up (f+d) (b+c):=by
 intro t
 induction t using Fm.ind with
 |h k s ts l e=>
  intro d;rw[Fm.l0,Fm.l0,Fm.l0]
  congr 1
  ·rw[Qz];exact xx λx _=>Tm.up_add f b c a x d
  ·rw[Qz]
   exact xx λx g=>by
    have:=e x g (d+qB k);rw[show f+(d+qB k)=f+d+qB k by omega] at this;exact this
def Fm.U_(t:Fm){b c:Int}(a:0<=b):(t.up 0 b).up 0 c=t.up 0 (b+c):=by
 have:=Fm.up_add 0 b c a t 0
 rwa [yu] at this
def Fm.Mf(t:Fm):∀f,t.up f 0=t:=by
 induction t using Fm.ind with
 |h k s ts l a=>
  intro f;rw[Fm.l0]
  congr 1
  ·rw[xx (g:=id) λx _=>Tm.xL x _];simp
  ·rw[xx (g:=id) λx b=>a x b _];simp
def Fm.xL(t:Fm):t.up 0 0=t:=Fm.Mf t 0
structure Hy (f:Fm):Prop where
 err:f.err=0
 abg:f.abg 536870912=true
structure SN (p:eh) (c:ej):Prop where
 abe:p.abe=c.abe.map s9
 vars:p.gk.vars=(c.abe.length:Int)
 abh:p.gk.abh=(c.abh.length:Int)
 ctx:kf c.abe
 nv:c.abe.length<=16
 nh:c.abh.length<=16
 known:p.known.length=c.abh.length
 hyp:∀(i:Nat) (x:ew) (h:Fm),p.known[i]?=some x->c.abh[i]?=some h->Hy x.eg/\0<=x.vars/\x.vars<=c.abe.length/\h=x.eg.up 0 (c.abe.length-x.vars)
def SN.with{p:eh}{c:ej}(h:SN p c){f:Fm}(m:Hy f)(hn:c.abh.length+1<=16):∃j d,gi p f=some j/\gE c f=some d/\SN j d/\d.lemmas=c.lemmas/\d.abe=c.abe/\d.abh=c.abh++[f]:=by
 unfold gi gE;have k:=h.known;rw[fl (by simp;omega),eo,fl (by simp;omega),eo];refine⟨_,_,rfl,rfl,⟨h.abe,h.vars,?_,h.ctx,h.nv,?_,?_,?_⟩,rfl,rfl,by simp only[gG]⟩
 ·show fj .i64 p.gk.abh 1=_;rw[h.abh,fu (by have:=h.nh;omega) (by have:=h.nh;omega),gG];simp
 ·show(gv c.abh [f]).length<=16;rw[gG];simpa using hn
 ·show(gv p.known _).length=(gv c.abh [f]).length;simp[gG,k]
 ·intro i x g b a
  have b:(p.known++[ew.mk f p.gk.vars])[i]?=some x:=by rw[<-gG];exact b
  have a:(c.abh++[f])[i]?=some g:=by rw[<-gG];exact a
  rcases sA i c.abh.length with e|hge
  ·rw[tD (by omega)] at b;rw[tD e] at a;exact h.hyp i x g b a
  ·have hi:i=c.abh.length:=by
    have:=(pG.1 a).1;simp at this;omega
   subst hi;rw[xI (by omega),k,RN] at b;rw[xI (by omega),RN] at a;have n:ew.mk f p.gk.vars=x:=iw b;have o:f=g:=iw a;subst n;subst o;have l:=h.vars;refine⟨m,by show 0<=p.gk.vars;omega,by show p.gk.vars<=_;exact Int.le_of_eq l,?_⟩;show f=f.up 0 (c.abe.length-p.gk.vars);rw[l,Int.sub_self];exact(Fm.xL f).symm
def kf.append{g l:List Ty}(h:kf g)(a:kf l):kf (g++l):=λs hs=>(sy.1 hs).elim (h s) (a s)
def Dy{g l:List Ty}(a:kf l)(b:g.length+l.length<=900000):gH (g.map s9) l=some ((g++l).map s9):=by
 unfold gH;rw[vj a (by omega),cl,fl (by simp;omega),eo,gG,V6]
def SN.below{p:eh}{c:ej}(h:SN p c){l:List Ty}(k:kf l)(hn:c.abe.length+l.length<=16)(n:∀f∈c.abh,f.err=0/\f.abg 1000000000=true):∃m b,fZ p l=some m/\fK c l=some b/\SN m b/\b.lemmas=c.lemmas/\b.abe=c.abe++l/\b.abh=c.abh.map (Fm.up 0 l.length):=by
 have o:=h.nh
 have q:fZ p l=some (eh.mk (e_.mk (p.gk.vars+l.length) p.gk.abh) ((c.abe++l).map s9) p.known):=by
  unfold fZ;rw[h.abe,Dy k (by omega),cl];have:=h.vars;rw[fO,fu (by omega) (by omega)]
 have r:fK c l=some (ej.mk c.lemmas (c.abe++l) (c.abh.map (Fm.up 0 l.length))):=by
  unfold fK;simp only[ey]
  rw[fl (by omega),eo,eE (by omega),eo,iT (Fm.up 0 l.length) c.abh 0 [] (by simp;omega) (λj x v s t=>by
   obtain⟨q1,u⟩:=n x s;obtain⟨w,y⟩:=Fm.hZ q1
   rw[fO,tA FU x 0 l.length (by rw[fy];omega) (by omega) (by omega) (by omega) (by omega) (by omega) (Fm.mZ x (by omega) u),cl,fl (by simpa using t),eo,gG])]
  rw[cl,en,gG,oh]
 refine⟨_,_,q,r,⟨rfl,?_,?_,h.ctx.append k,?_,?_,?_,?_⟩,rfl,rfl,rfl⟩
 ·show p.gk.vars+l.length=((c.abe++l).length:Int);rw[h.vars];simp
 ·show p.gk.abh=((c.abh.map (Fm.up 0 l.length)).length:Int);rw[h.abh];simp
 ·show(c.abe++l).length<=16;simpa using hn
 ·show(c.abh.map (Fm.up 0 l.length)).length<=16;simpa using h.nh
 ·show p.known.length=(c.abh.map (Fm.up 0 l.length)).length;simpa using h.known
 ·intro i x g d a;have d:p.known[i]?=some x:=d;have a:(c.abh.map (Fm.up 0 l.length))[i]?=some g:=a;rw[ur] at a;cases e:c.abh[i]?with
  |none=>rw[e] at a;cases a
  |some g0=>
   rw[e] at a;have a:g0.up 0 l.length=g:=iw a;obtain⟨a1,a2,a3,a4⟩:=h.hyp i x g0 d e;refine⟨a1,a2,?_,?_⟩
   ·show x.vars<=((c.abe++l).length:Int);simp;omega
   ·show g=x.eg.up 0 (((c.abe++l).length:Int)-x.vars);rw[<-a,a4,Fm.U_ _ (by omega)]
    congr 1
    simp;omega
def SN.M4{p:eh}{c:ej}(h:SN p c){i:Int}(hi:0<=i):if(c.abh.length:Int)<=i then k_ p i=some (.mk 0 (.mk 0 []) [] [],false)else∃f,eI c.abh (fB .i64 (fB .i64 (eM c.abh) 1) i)=some f/\k_ p i=some (f,true):=by
 have g:=h.nh;have j:=h.known;unfold k_;rw[fO,j]
 split
 ·rename_i d;rw[ee (by rw[jk];exact d)]
 ·rename_i d;rw[ea (by rw[jk];exact d),fO,fG (a:=(c.abh.length:Int)) (by omega) (by omega),fG (by omega) (by omega)]
  have b:(((c.abh.length:Int)-1-i).toNat)<c.abh.length:=by omega
  have e:(c.abh.length:Int)-1-i=((((c.abh.length:Int)-1-i).toNat:Nat):Int):=by omega
  rw[e,jJ,jJ,pW b,pW (by omega)];obtain⟨a1,a2,a3,a4⟩:=h.hyp _ _ _ (pW (by omega)) (pW b);refine⟨_,rfl,?_⟩;obtain⟨k,m⟩:=Fm.hZ a1.err;have l:=h.nv;rw[cl,h.vars,fG (by omega) (by omega),t_ k (by omega) (Fm.mZ _ (by omega) a1.abg) (by omega) (by omega) (by omega) (by omega),cl,<-a4]
def SC{t:Tm}(m:t.ok=true):uX t=some t.root:=by
 unfold uX;simp only[ey];cases t with
 |mk k i s l=>
  show(if(eH k 3)=true then(cv (eI l 0) λg=>some (eH g.aba 2))else(
   if(eH k 6)=true then(cv (eI l 2) λe=>if(eH e.aba 4)=true then some true else some (eH e.aba 5))else(
   if(eH k 9)=true then(cv (eI l 2) λf=>if(eH f.aba 7)=true then some true else some (eH f.aba 8))else(
   if(fU (eH k 11) true (eH k 12))=true then(cv (eI l 0) λh=>some (eH h.aba 10))else some false))))=_
  unfold Tm.root
  by_cases n:k=3
  ·subst n;obtain⟨a,b,rfl⟩:=Tm.ok3 m;rw[ee (by decide)];simp[eU,Tm.kd,uw]
  ·rw[ea (by simpa using n)]
   by_cases o:k=6
   ·subst o;obtain⟨a,b,c,rfl⟩:=Tm.ok6 m;rw[ee (by decide)];simp only[jv,m4,js,cl,Tm.kd,gB]
    by_cases j:c.aba=4
    ·simp[j]
    ·simp[j,uw]<;>exact Nx.2 Iff.rfl
   ·rw[ea (by simpa using o)]
    by_cases p:k=9
    ·subst p;obtain⟨a,b,c,rfl⟩:=Tm.ok9 m;rw[ee (by decide)];simp only[jv,m4,js,cl,Tm.kd,gB]
     by_cases j:c.aba=7
     ·simp[j]
     ·simp[j,uw]<;>exact Nx.2 Iff.rfl
    ·rw[ea (by simpa using p)]
     by_cases d:k=11\/k=12
     ·obtain⟨a,rfl⟩:=Tm.VN d m;rw[ee (by rcases d with rfl|rfl<;>rfl)];simp only[eU,js,cl,Tm.kd];rcases d with rfl|rfl<;>simp[uw]<;>exact Nx.2 Iff.rfl
     ·rw[ea (by simp only[l7,p8,gB];exact d)];simp only[not_or] at d;simp[n,o,p,d.1,d.2]
def yx{t:Tm}(h:t.abc<=1000000000):gh FU t=some (t.abc:Int):=oe FU t (by rw[fy];exact h) h
def O0{t:Tm}(o:t.ok=true)(hn:t.abc<=8192)(f:t.root=true):sm t=some ((t.gl.abc:Int)-(t.abc:Int)):=by
 have j:=Tm.IY o f;have p:=hn;unfold sm;rw[yx (by omega)];simp only[cl];cases j with
 |app=>
  rename_i i s c d b a;have l:=Tm.Dn (Tm.Dn o (.mk 2 c d [b]) (by simp)) b (by simp);rw[Tm.ef] at hn;simp only[eC,Tm.ef] at hn;rw[ee (by rfl)];simp only[Tm.eG,eU,gx,js,m4,cl];rw[yx (t:=b) (by omega),yx (t:=a) (by omega),zH FU b 0 (by rw[fy];omega) (by omega) (by omega) (by omega)];simp only[cl];have q:=Tm.iZ b 0;have hmul:b.abi 0*a.abc<=8192*8192:=Fg (by omega) (by omega);have r:=Tm.rP a b 0 l;have u:=a.eQ
  have e:(Tm.mk 3 i s [.mk 2 c d [b],a]).gl=Tm.m7 0 b a:=by simp[Tm.gl]
  rw[e]
  have hint:(b.abi 0:Int)*((a.abc:Int)-1)=((b.abi 0*a.abc:Nat):Int)-(b.abi 0:Int):=by rw[Tk,TD];simp
  rw[fG (a:=(a.abc:Int)) (by omega) (by omega),zM (by rw[hint];omega) (by rw[hint];omega),hint,fu (by omega) (by omega),fG (by omega) (by omega)]
  congr 1
  omega
 |proj m=>
  rename_i k i s c d a b;rw[Tm.ef] at hn;simp only[eC,Tm.ef] at hn;rcases m with rfl|rfl
  ·rw[ea (by simp),ea (by simp),ea (by simp),ee (by rfl)];simp only[Tm.eG,eU,gx,js,m4,cl];rw[yx (t:=a) (by omega)];simp only[cl];rw[fG (by omega) (by omega)];simp[Tm.gl]
  ·rw[ea (by simp),ea (by simp),ea (by simp),ea (by simp)];simp only[Tm.eG,eU,gx,js,m4,cl];rw[yx (t:=b) (by omega)];simp only[cl];rw[fG (by omega) (by omega)];simp[Tm.gl]
 |zero m=>
  rename_i k v i s c d b st;rw[Tm.ef] at hn;simp only[eC,Tm.ef] at hn
  have g:k≠3/\k≠11/\k≠12:=by omega
  have:(Tm.mk k i s [b,st,.mk v c d []]).gl=b:=by simp[Tm.gl,g.1,g.2.1,g.2.2]
  rw[this];rcases m with⟨rfl,rfl⟩|⟨rfl,rfl⟩
  ·rw[ea (by simp),ee (by rfl)];simp only[Tm.eG,eU,gx,jv,js,m4,cl];rw[ee (by rfl),yx (t:=b) (by omega)];simp only[cl];rw[fG (by omega) (by omega)]
  ·rw[ea (by simp),ea (by simp),ee (by rfl)];simp only[Tm.eG,eU,gx,jv,js,m4,cl];rw[ee (by rfl),yx (t:=b) (by omega)];simp only[cl];rw[fG (by omega) (by omega)]
 |succ=>
  rename_i i s c d b st n
  have e:(Tm.mk 6 i s [b,st,.mk 5 c d [n]]).gl=mh st [n,.mk 6 i s [b,st,n]]:=by simp[Tm.gl,mh]
  rw[e,oT];rw[Tm.ef] at hn|-;simp only[eC,Tm.ef,lL,wE] at hn|-;rw[ea (by simp),ee (by rfl)];simp only[Tm.eG,eU,gx,jv,js,m4,cl];rw[ea (by simp),yx (t:=st) (by omega),yx (t:=n) (by omega)];simp only[cl];rw[fu (a:=2) (by omega) (by omega),fu (b:=(n.abc:Int)) (by omega) (by omega),fu (by omega) (by omega),fG (b:=1) (by omega) (by omega),fG (by omega) (by omega)]
  congr 1
  omega
 |cons=>
  rename_i i s c d b st h n
  have e:(Tm.mk 9 i s [b,st,.mk 8 c d [h,n]]).gl=mh st [h,n,.mk 9 i s [b,st,n]]:=by simp[Tm.gl,mh]
  rw[e,oT];rw[Tm.ef] at hn|-;simp only[eC,Tm.ef,lL,wE] at hn|-;rw[ea (by simp),ea (by simp),ee (by rfl)];simp only[Tm.eG,eU,gx,jv,js,m4,cl];rw[ea (by simp),yx (t:=st) (by omega),yx (t:=h) (by omega),yx (t:=n) (by omega)];simp only[cl];rw[fu (a:=3) (by omega) (by omega),fu (b:=(h.abc:Int)) (by omega) (by omega),fu (b:=(n.abc:Int)) (by omega) (by omega),fu (by omega) (by omega),fG (b:=1) (by omega) (by omega),fG (b:=(h.abc:Int)) (by omega) (by omega),fG (by omega) (by omega)]
  congr 1
  omega
def MF{M:Int}(o:0<=M/\M<=1000000000000){t:Tm}(hs:Sm M t)(hn:t.abc<=8192)(c:t.root=true):qT t=some t.gl:=by
 have j:=hs.ok;have l:=Tm.IY j c;have hw:=Tm.jx t j;unfold qT;cases l with
 |app=>
  rename_i i s e f b a;have d:=(hs.arg (.mk 2 e f [b]) (by simp)).arg b (by simp);have g:=hs.arg a (by simp);have p:=d.abc;have q:=g.abc;rw[ee (by rfl)];simp only[Tm.eG,eU,gx,js,m4,cl];rw[DY FU b 0 0 a (by rw[fy];omega) (by omega) (by omega) (by omega) (by omega) (d.mono o.2).abg d.ok (by omega) (g.mono o.2).abg];simp[Tm.gl]
 |proj m=>
  rename_i k i s e f a b;rcases m with rfl|rfl
  ·rw[ea (by simp),ea (by simp),ea (by simp),ee (by rfl)];simp[Tm.gl,eU]
  ·rw[ea (by simp),ea (by simp),ea (by simp),ea (by simp)];simp[Tm.gl,eU,gx]
 |zero m=>
  rename_i k r i s e f b st;rcases m with⟨rfl,rfl⟩|⟨rfl,rfl⟩
  ·rw[ea (by simp),ee (by rfl)];simp[Tm.gl,eU,jv,eH]
  ·rw[ea (by simp),ea (by simp),ee (by rfl)];simp[Tm.gl,eU,jv,eH]
 |succ=>
  rename_i i s e f b st n;have hi:i=0:=(Tm.l6 j).2.2.1 (by decide);subst hi;rw[Tm.fI] at hw;simp only[eC,Tm.fI] at hw;rw[ea (by simp),ee (by rfl)];simp only[Tm.eG,eU,gx,jv,js,m4,cl,Tm.fv];rw[ea (by simp),tN (by omega) (by omega)];simp only[cl];rw[Co (by omega) (by omega) (by omega) (by omega)];simp only[cl];rw[pS _ _ (by simp only[eC,Tm.fI,Ty.z,Ty.ef];omega)];simp[Tm.gl,mh,Ty.z]
 |cons=>
  rename_i i s e f b st h n;have hi:i=0:=(Tm.l6 j).2.2.1 (by decide);subst hi;rw[Tm.fI] at hw;simp only[eC,Tm.fI] at hw;rw[ea (by simp),ea (by simp),ee (by rfl)];simp only[Tm.eG,eU,gx,jv,js,m4,cl,Tm.fv];rw[ea (by simp),tN (by omega) (by omega)];simp only[cl];rw[pS _ _ (by simp only[eC,Tm.fI,Ty.z,Ty.ef];omega)];simp only[cl];rw[Co (by omega) (by omega) (by omega) (by omega)];simp only[cl];rw[pS _ _ (by simp only[eC,Tm.fI,Ty.z,Ty.ef];omega)];simp[Tm.gl,mh,Ty.z]
def Va(t:Tm)(o:Option (Option Tm))(r:Tm×Bool×Bool):Prop:=
 match o with
 |none=>r.2.1=true/\r.2.2=false|some none=>r=(t,false,true)|some (some a)=>r=(a,true,true)
def Oh{M:Int}(C:0<=M/\M<=1000000000000)(room:Int):∀(n:Nat) (t:Tm),t.abc<=n->Sm M t->t.abc<=8192->∃r,oN n t room=some r/\Va t (t.I7 room) r
 |0,t,hn,_,_=>by have:=t.eQ;omega
 |n+1,.mk k i s l,hn,hs,B=>by
  rw[oN,SC hs.ok];simp only[cl];rw[Tm.A5]
  by_cases p:(Tm.mk k i s l).root=true
  ·rw[ee p,ee p,O0 hs.ok B p];simp only[cl,gD]
   by_cases hg:((Tm.mk k i s l).gl.abc:Int)-((Tm.mk k i s l).abc:Int)>room
   ·rw[ee hg,ee hg];exact⟨_,rfl,rfl,rfl⟩
   ·rw[ea hg,ea hg,MF C hs B p];exact⟨_,rfl,rfl⟩
  ·rw[ea p,ea p];rw[Tm.ef] at hn B;have hlen:=Tm.Zg hs.ok;simp only[Tm.eG,ey,eE (l:=l) (by omega),eo,Tm.eN,Tm.gy,Tm.fv]
   have key:∀(ts pre:List Tm),l=pre++ts->∃o,ft (λ(a:Int) (v:Tm)=>(λ(_:Unit)=>
     iG (oN n v room) λw x y=>
     if x=true then(
     g_ (yl l)<|cv (eI l a) λD=>
     some (gu.ret ((Tm.mk k i s (wV l a w)),true,y)))
     else(some (.next ())))) ts pre.length ()=some o/\(match Tm.sx room ts with
      |none=>∃r:Tm×Bool×Bool,o=.inr r/\r.2.1=true/\r.2.2=false|some none=>o=.inl ()|some (some g)=>o=.inr (Tm.mk k i s (pre++g),true,true)):=by
    intro ts
    induction ts with
    |nil=>intro pre _;exact⟨_,rfl,by rw[Tm.sx]⟩|cons t ts E=>
     intro pre z
     have h:t∈l:=by rw[z];simp
     have F:=eL Tm.abc h;obtain⟨⟨u,b,c⟩,G,j⟩:=Oh C room n t (by omega) (hs.arg t h) (by omega);rw[fm];simp only[G,o_]
     have d:eI l ((pre.length:Nat):Int)=some t:=by
      unfold eI;rw[ee (by omega)];rw[z];simp
     have gj:wV l ((pre.length:Nat):Int) u=pre++u::ts:=by
      unfold wV;rw[z,As,FD]
     have f:yl l=true:=by
      unfold yl Kw;have:0<l.length:=List.length_pos_of_mem h;exact vF (by omega)
     rw[Tm.sx];unfold Va at j;cases e:t.I7 room with
     |none=>
      rw[e] at j;obtain⟨q1,A⟩:=j;simp only at q1 A;rw[ee q1,f,eo,d];exact⟨_,rfl,_,rfl,rfl,A⟩
     |some o=>
      cases o with
      |none=>
       rw[e] at j;obtain⟨rfl,q⟩:=jI j;obtain⟨rfl,rfl⟩:=jI q;rw[ea (by decide)];simp only[cl,fA];obtain⟨o,o1,o2⟩:=E (pre++[u]) (by rw[z];simp);rw[so] at o1;refine⟨o,o1,?_⟩;cases m:Tm.sx room ts with
       |none=>rw[m] at o2;exact o2
       |some q=>
        cases q with
        |none=>rw[m] at o2;exact o2
        |some g=>rw[m] at o2;simpa using o2
      |some H=>
       rw[e] at j;obtain⟨rfl,q⟩:=jI j;obtain⟨rfl,rfl⟩:=jI q;rw[ee rfl,f,eo,d];simp only[cl,gj];exact⟨_,rfl,rfl⟩
   obtain⟨o,o1,o2⟩:=key l [] rfl;rw[show(([]:List Tm).length)=0 from rfl] at o1;rw[o1];cases m:Tm.sx room l with
   |none=>
    rw[m] at o2;obtain⟨r,rfl,q1,A⟩:=o2;exact⟨r,rfl,q1,A⟩
   |some q=>
    cases q with
    |none=>rw[m] at o2;subst o2;exact⟨_,rfl,rfl⟩
    |some g=>rw[m] at o2;subst o2;exact⟨_,rfl,rfl⟩
def Iy{t:Tm}(h:t.err=0):t.ok=true/\t.abc<=4096:=Tm.hZ h
def CF(steps:Int)(z:0<=steps/\steps<=65536):∀(k:Nat) (m:Int) (t:Tm) (N:Nat),(k:Int)=steps-m->0<=m->Sm (536870912+8192*m) t->t.abc<=4096->k<N->oH ((P0 λ(d:Int) (f:Int) (g:Int) (i:Int) (j:List Ty) (l:List Tm)=>
   cv (gh FU (Tm.mk f g (Ty.mk i j) l)) λr=>
   iG (oN FU (Tm.mk f g (Ty.mk i j) l) (fB .i64 4096 r)) λa s v=>
   if s=true then(
   if(eH d steps)=true then(
   some (.ret ((Tm.mk 0 0 (Ty.mk 0 []) []),0,5)))
   else(if v=true then(
   some (.next ((fj .i64 d 1),a.aba,a.abd,a.dv.aba,a.dv.abb,a.abb)))
   else(some (.ret ((Tm.mk 0 0 (Ty.mk 0 []) []),0,4)))))
   else(cv (jA FU (Tm.mk f g (Ty.mk i j) l)) λw=>
   some (.ret (w,d,0)))):(Int×Int×Int×Int×(List Ty)×(List Tm))->(Option (gu (Int×Int×Int×Int×(List Ty)×(List Tm)) (Tm×Int×Int)))) N (m,t.aba,t.abd,t.dv.aba,t.dv.abb,t.abb)=some (.inr (t.norm k m))
 |k,m,t,0,_,_,_,_,A=>by omega|k,m,t,N+1,C,hm,hs,hn,A=>by
  rw[nP];simp only[y_,V2];have hw:=Tm.jx t hs.ok;rw[yx (by omega)];simp only[cl];rw[fG (by omega) (by omega)];obtain⟨⟨u,b,c⟩,B,n⟩:=Oh (M:=536870912+8192*m) (by omega) (4096-t.abc) FU t (by rw[fy];omega) hs (by omega);rw[B];simp only[o_];unfold Va at n;cases e:t.I7 (4096-t.abc)with
  |none=>
   rw[e] at n;obtain⟨q1,y⟩:=n;simp only at q1 y;rw[ee q1];cases k with
   |zero=>
    have p:¬t.nf=true:=by
     intro h;rw[(Gw _ t).1 h] at e;cases e
    rw[ee (by simp[eH];omega),Tm.norm,ea p];rfl
   |succ k=>
    rw[ea (by simp[eH];omega),ea (by rw[y];decide),Lg e];rfl
  |some o=>
   cases o with
   |none=>
    rw[e] at n;obtain⟨rfl,q⟩:=jI n;obtain⟨rfl,rfl⟩:=jI q;rw[ea (by decide),nH (by omega)];cases k with
    |zero=>rw[Tm.norm,ee ((Gw _ _).2 e)];rfl|succ k=>rw[Jb e];rfl
   |some D=>
    rw[e] at n;obtain⟨rfl,q⟩:=jI n;obtain⟨rfl,rfl⟩:=jI q;rw[ee rfl];cases k with
    |zero=>
     have p:¬t.nf=true:=by
      intro h;rw[(Gw _ t).1 h] at e;cases e
     rw[ee (by simp[eH];omega),Tm.norm,ea p];rfl
    |succ k=>
     obtain⟨s1,s2,E⟩:=Jp (M:=536870912+8192*m) (by omega) t hs (by omega) _ e;rw[ea (by simp[eH];omega),ee rfl,I6 e,fu (by omega) (by omega)];have x:Sm (536870912+8192*(m+1)) u:=⟨s1,by rw[show 536870912+8192*(m+1)=536870912+8192*m+8192 by omega];exact s2,by omega⟩;exact CF steps z k (m+1) u N (by omega) (by omega) x (by omega) (by omega)
def I0:∀(k:Nat) (m:Int) (t p:Tm) (n e:Int),t.norm k m=(p,n,e)->e≠0->p=Tm.z
 |0,m,t,p,n,e,h,he=>by
  rw[Tm.norm] at h
  split at h
  ·obtain⟨_,h⟩:=jI h;obtain⟨_,h⟩:=jI h;exact absurd h.symm he
  ·exact(jI h).1.symm
 |k+1,m,t,p,n,e,h,he=>by
  rw[Tm.norm] at h
  split at h
  ·exact(jI h).1.symm
  ·obtain⟨_,h⟩:=jI h;obtain⟨_,h⟩:=jI h;exact absurd h.symm he
  ·exact I0 k _ _ _ _ _ h he
def zi{t:Tm}(hw:t.wt<=1000000)(steps:Int):∃p m e,kA t steps=some (p,m,e)/\mw t steps=some (p,m,e)/\p.wt<=1000000000:=by
 have i:=t.iO
 have c:Tm.z.wt<=1000000000:=by decide
 have a:=wT (t:=t) (by omega) steps;unfold mw;rw[mQ (by omega)];simp only[cl]
 by_cases he:t.err=0
 ·obtain⟨j,hn⟩:=Iy he;rw[ee he] at a;rw[ea (by simp[eW,he])];simp only[ey,lS,gD]
  by_cases a1:steps<0
  ·rw[ea (by omega)] at a;rw[ee a1,ee trivial];exact⟨_,_,_,a,rfl,c⟩
  ·rw[ea a1]
   by_cases a2:steps>65536
   ·rw[ea (by omega)] at a;rw[ee a2,ee trivial];exact⟨_,_,_,a,rfl,c⟩
   ·rw[ea a2,zE FU t 536870912 (by rw[fy];omega) (by omega)];simp only[cl]
    by_cases b:t.abg 536870912=true
    ·rw[ee ⟨by omega,by omega,b⟩] at a;have hs:Sm 536870912 t:=⟨j,b,by omega⟩;rw[b,ea (by decide),CF steps (by omega) steps.toNat 0 t FU (by omega) (by omega) hs (by omega) (by rw[fy];omega)];generalize d:t.norm steps.toNat 0=o at a;obtain⟨p,m,e⟩:=o;refine⟨p,m,e,a,rfl,?_⟩;have f:=KY steps.toNat 0 t
     by_cases g:e=0
     ·subst g;obtain⟨q1,k⟩:=J7 _ 536870912 _ _ _ _ (by omega) hs hn d;have:=Tm.jx p q1.ok;omega
     ·rw[I0 _ _ _ _ _ _ d g];exact c
    ·rw[ea (λh=>b h.2.2)] at a;rw[ee (by rw[Bool.not_eq_true] at b;rw[b];rfl)];exact⟨_,_,_,a,rfl,c⟩
 ·rw[ea he] at a;rw[ee (by simp[eW,he])];exact⟨_,_,_,a,rfl,c⟩
def Jd{a b:Tm}(c:a.wt<=1000000000):∃r,rk a b=some r/\kb FU a b=some r:=by
 obtain⟨r,d,e⟩:=HM (b:=b) c;obtain⟨q,q1,f⟩:=AG FU a b (by rw[fy];exact c) c
 have:r=q:=by rw[By,e,f]
 subst this;exact⟨r,d,q1⟩
def M0{a b:Tm}(l:a.wt<=1000000)(o:b.wt<=1000000)(steps:Int):∃c,qu a b steps=some c/\rA a b steps=some c:=by
 unfold qu rA;rw[vn (by omega),vn (t:=b) (by omega),mQ (by omega),mQ (t:=b) (by omega)];simp only[cl]
 by_cases d:eW a.err 0=true
 ·rw[ee d,ee d];exact⟨_,rfl,rfl⟩
 ·rw[ea d,ea d]
  by_cases g:eW b.err 0=true
  ·rw[ee g,ee g];exact⟨_,rfl,rfl⟩
  ·rw[ea g,ea g];obtain⟨r,u,v⟩:=Jd (a:=a) (b:=b) (by omega);rw[u,v];simp only[cl]
   by_cases h:r=true
   ·rw[ee h,ee h];exact⟨_,rfl,rfl⟩
   ·rw[ea h,ea h];obtain⟨p,m,e,w,x,y⟩:=zi l steps;obtain⟨q,n,f,q1,z,A⟩:=zi o steps;rw[w,x,q1,z];simp only[o_]
    by_cases i:eW e 0=true
    ·rw[ee i,ee i];exact⟨_,rfl,rfl⟩
    ·rw[ea i,ea i]
     by_cases j:eW f 0=true
     ·rw[ee j,ee j];exact⟨_,rfl,rfl⟩
     ·rw[ea j,ea j];obtain⟨s,s1,s2⟩:=Jd (a:=p) (b:=q) y;rw[s1,s2];simp only[cl]
      by_cases k:s=true
      ·rw[ee k];exact⟨_,rfl,rfl⟩
      ·rw[ea k];exact⟨_,rfl,rfl⟩
def Dr{α:Type}{E E':α->α->Option Int}{M:List α}:∀(l:List α) (i:Nat),(∀x∈l,∀y∈M,∃c,E x y=some c/\E' x y=some c)->i+l.length<=M.length->∃o,ft (λ(d:Int) (e:α)=>(λ(_:Unit)=>cv (eI M d) λb=>cv (E e b) λa=>if(eW a 0)=true then(some (.ret a))else(some ((.next ()):gu Unit Int)))) l i ()=some o/\ft (λ(d:Int) (e:α)=>(λ(_:Unit)=>cv (eI M d) λb=>cv (E' e b) λa=>if(eW a 0)=true then(some (.ret a))else(some ((.next ()):gu Unit Int)))) l i ()=some o
 |[],i,_,_=>⟨.inl (),by simp,by simp⟩|x::l,i,h,g=>by
  simp only[lL] at g;obtain⟨c,j,k⟩:=h x (by simp) M[i] (Ga (by omega));rw[fm,fm,jJ,pW (by omega)];simp only[cl,j,k]
  by_cases f:eW c 0=true
  ·rw[ee f];exact⟨.inr c,rfl,rfl⟩
  ·rw[ea f];simp only[cl,fA];exact Dr l (i+1) (λy hy=>h y (by simp[hy])) (by omega)
def Fm.shape{k:Int}{s f:Ty}{ts us:List Tm}{l m:List Fm}(h:(Fm.mk k s ts l).ok=true)(d:(Fm.mk k f us m).ok=true):ts.length=us.length/\l.length=m.length:=by
 rw[Fm.hY] at h d;simp only[gL] at h d;have c:=h.1.1;have a:=d.1.1;unfold Fm.node at c a
 split at c
 ·rename_i e;rw[ee e] at a;simp only[gL,ni] at c a;omega
 ·rename_i e;rw[ea e] at a
  split at c
  ·rename_i b;rw[ee b] at a;simp only[gL,ni] at c a;omega
  ·rename_i b;rw[ea b] at a;simp only[gL,ni] at c a;omega
def Mv:∀(n:Nat) (a b:Fm),a.wt<=n->a.wt<=1000000->b.wt<=1000000->a.ok=true->b.ok=true->∃c,mA n a b=some c/\oI n a b=some c:=by
 intro n
 induction n with
 |zero=>intro t b h;have:=t.jt;omega
 |succ n w=>
  intro a b h z g p d;cases a with
  |mk k s ts l=>
  cases b with
  |mk k' A us m=>
   rw[Fm.fI] at h z g;have D:=Fm.oo l;have B:=Tm.oo ts;rw[mA,oI];simp only[Fm.eG,Fm.eN,Fm.hU,Fm.fv,ey,eE (l:=l) (by omega),eE (l:=ts) (by omega),eo,eA]
   by_cases e:k≠k'
   ·rw[ee e,ee e];exact⟨11,rfl,rfl⟩
   ·rw[ea e,ea e,rZ (by omega),jb (by omega)];simp only[cl];have i:k=k':=y8.1 e;subst i;obtain⟨s1,s2⟩:=Fm.shape p d;obtain⟨_,F,ol⟩:=Fm.tv p;obtain⟨_,C,j⟩:=Fm.tv d;cases s.nx A with
    |false=>exact⟨11,rfl,rfl⟩|true=>
     obtain⟨o,q,k2⟩:=Dr (E:=λx y=>qu x y 1000) (E':=λx y=>rA x y 1000) (M:=us) ts 0 (λx f y hy=>M0 (by have:=eL Tm.wt f;omega) (by have:=eL Tm.wt hy;omega) 1000) (by omega);simp only[eA] at q k2;rw[ea (by decide),ea (by decide),q,k2];cases o with
     |inr r=>exact⟨r,rfl,rfl⟩|inl u=>
      simp only[cl,en];obtain⟨o,q1,v⟩:=Dr (E:=λx y=>mA n x y) (E':=λx y=>oI n x y) (M:=m) l 0 (λx f y hy=>w x y (by have:=eL Fm.wt f;omega) (by have:=eL Fm.wt f;omega) (by have:=eL Fm.wt hy;omega) (ol x f) (j y hy)) (by omega);simp only[eA] at q1 v;rw[q1,v];cases o with
      |inr r=>exact⟨r,rfl,rfl⟩|inl u=>exact⟨0,rfl,rfl⟩
def A2{a b:Fm}(f:a.wt<=1000000000)(g:b.wt<=1000000000):∃c,lA a b=some c/\oE a b=some c:=by
 unfold lA oE;rw[ow f,ow g,mU f,mU g];simp only[cl,eA]
 by_cases d:a.err≠0
 ·rw[ee d,ee d];exact⟨_,rfl,rfl⟩
 ·rw[ea d,ea d]
  by_cases e:b.err≠0
  ·rw[ee e,ee e];exact⟨_,rfl,rfl⟩
  ·rw[ea e,ea e];obtain⟨o1,n1⟩:=Fm.hZ (y8.1 d);obtain⟨o2,n2⟩:=Fm.hZ (y8.1 e);have j:=a.jx o1;have k:=b.jx o2;obtain⟨c,h,i⟩:=Mv FU a b (by rw[fy];omega) (by omega) (by omega) o1 o2;rw[h,i];exact⟨c,rfl,rfl⟩
def Em{g:List Ty}{x:Tm}{t:Ty}(h:fk g x t)(hg:kf g)(a:g.length+x.abc<=1000000):x.ty g=(t,0):=by
 have b:=(RO h hg).2 x.abc (jh _) a;rw[yU x.abc x (jh _) h.ok g hg a] at b;exact iw b
def KW{g:List Ty}{x:Tm}(c:x.ok=true)(hg:kf g)(h:pH x g 1=0):fk g x .nat:=by
 unfold pH at h
 split at h
 ·cases h
 ·rename_i d
  have e:(x.ty g).1.aba=1:=by
   rcases Int.emod_two_eq (x.ty g).1.aba with _|_<;>
   ·by_cases a:(x.ty g).1.aba=1
    ·exact a
    ·exact absurd ⟨h,a⟩ d
  obtain⟨b,f⟩:=q7 _ x (jh _) c g hg _ (wU h);rw[(vi f).1 e] at b;exact b
def Jo{g:List Ty}{x:Tm}(h:fk g x .nat)(hg:kf g)(a:g.length+x.abc<=1000000):pH x g 1=0:=by
 unfold pH;rw[Em h hg a];exact ea (λh=>h.2 rfl)
def sJ(f:Fm)(o:f.ok=true):∀g,kf g->f.vE g=0->kM g f:=by
 refine Fm.pc (p:=λf=>∀g,kf g->f.vE g=0->kM g f) ?_ ?_ ?_ f o
 ·intro a b j n g hg h;rw[Fm.tV] at h
  by_cases c:pH a g 1=0
  ·by_cases e:pH b g 1=0
   ·exact .eq (KW j hg c) (KW n hg e)
   ·simp[hE,c,e] at h
  ·simp[hE,c] at h
 ·intro k a b i j n d l g hg h
  have m:kR k=false:=by rcases i with rfl|rfl<;>rfl
  rw[Fm.tV,m] at h;simp only[LW,hE,zf,if_true,tp,pE] at h
  by_cases c:a.vE g=0
  ·rw[ee c] at h
   by_cases e:b.vE g=0
   ·exact .two i (d g hg c) (l g hg e)
   ·rw[ea e] at h;exact absurd h e
  ·rw[ea c] at h;exact absurd h c
 ·intro k s a i hs j d g hg h
  have m:kR k=true:=by rcases i with rfl|rfl|rfl|rfl<;>rfl
  rw[Fm.tV,m] at h;simp only[LW,hE,zf,if_true] at h
  by_cases c:a.vE (g++[s])=0
  ·exact .q i hs (d _ (hg.app hs) c)
  ·rw[ea c] at h;exact absurd h c
def JG{g:List Ty}{f:Fm}(h:kM g f):kf g->g.length+f.abc<=1000000->f.vE g=0:=by
 induction h with
 |eq l m=>
  intro hg c;rw[Fm.ef] at c;simp only[eC] at c;rw[Fm.tV];simp[hE,Jo l hg (by omega),Jo m hg (by omega)]
 |two d _ _ e i=>
  intro hg c;rw[Fm.ef] at c;simp only[eC] at c;rename_i k a b _ _
  have j:kR k=false:=by rcases d with rfl|rfl<;>rfl
  rw[Fm.tV,j];simp[hE,e hg (by omega),i hg (by omega)]
 |q d hs _ n=>
  intro hg c;rw[Fm.ef] at c;simp only[eC] at c;rename_i k s a _
  have j:kR k=true:=by rcases d with rfl|rfl|rfl|rfl<;>rfl
  rw[Fm.tV,j];simp[hE,n (hg.app hs) (by simp;omega)]
def kM.up{g:List Ty}{f:Fm}(h:kM g f):∀g1 g2 e:List Ty,g=g1++g2->kM (g1++e++g2) (f.up g2.length e.length):=by
 induction h with
 |eq l m=>
  intro g1 g2 e hg;rw[Fm.l0];exact .eq (l.up g1 g2 e hg) (m.up g1 g2 e hg)
 |two c _ _ d i=>
  intro g1 g2 e hg;rename_i k a b _ _
  have j:qB k=0:=by rcases c with rfl|rfl<;>rfl
  rw[Fm.l0,j,yu];exact .two c (d g1 g2 e hg) (i g1 g2 e hg)
 |q c hs _ n=>
  intro g1 g2 e hg;rename_i k s a _
  have j:qB k=1:=by rcases c with rfl|rfl|rfl|rfl<;>rfl
  subst hg;have:=n g1 (g2++[s]) e (by rw[ux]);rw[Fm.l0,j];rw[so,<-ux] at this;exact .q c hs this
def kM.lift{g:List Ty}{f:Fm}(h:kM g f)(e:List Ty):kM (g++e) (f.up 0 e.length):=by
 have:=h.up g [] e (by simp);simpa using this
def kM.m7{g:List Ty}{f:Fm}(h:kM g f):∀(g1:List Ty) (s:Ty) (g2:List Ty) (a:Tm),g=g1++[s]++g2->fk g1 a s->kM (g1++g2) (Fm.m7 g2.length f a):=by
 induction h with
 |eq j l=>
  intro g1 s g2 a hg b;rw[Fm.nU];exact .eq (j.m7 g1 s g2 a hg b) (l.m7 g1 s g2 a hg b)
 |two c _ _ d e=>
  intro g1 s g2 a hg b;rename_i k x y _ _
  have i:qB k=0:=by rcases c with rfl|rfl<;>rfl
  rw[Fm.nU,i,yu];exact .two c (d g1 s g2 a hg b) (e g1 s g2 a hg b)
 |q c hs _ m=>
  intro g1 s g2 a hg b;rename_i k n x _
  have i:qB k=1:=by rcases c with rfl|rfl|rfl|rfl<;>rfl
  subst hg;have:=m g1 s (g2++[n]) a (by simp) b;rw[Fm.nU,i];rw[so,<-ux] at this;exact .q c hs this
def kM.put{g:List Ty}{s:Ty}{f:Fm}(h:kM (g++[s]) f){a:Tm}(b:fk g a s):kM g (Fm.m7 0 f a):=by
 have:=h.m7 g s [] a (by simp) b;simpa using this
def fk.front{g:List Ty}{x:Tm}{t:Ty}(h:fk g x t)(e:List Ty):fk (e++g) x t:=by
 induction h with
 |@var g t i c j=>
  refine .var i (by simp;omega) ?_;rw[xI (by simp;omega),<-j]
  congr 1
  simp;omega
 |lam c _ d=>exact .lam c (by rw[ux];exact d)|app _ _ a b=>exact .app a b|zero=>exact .zero|succ _ d=>exact .succ d|uq c _ _ _ a b f=>exact .uq c a b f|nil=>exact .nil|cons _ _ a b=>exact .cons a b|fold c _ _ _ a b f=>exact .fold c a b f|pair c _ _ a b=>exact .pair c a b|fst _ d=>exact .fst d|snd _ d=>exact .snd d|unit=>exact .unit
def kM.front{g:List Ty}{f:Fm}(h:kM g f)(e:List Ty):kM (e++g) f:=by
 induction h with
 |eq d i=>exact .eq (d.front e) (i.front e)|two a _ _ b c=>exact .two a b c|q a hs _ j=>exact .q a hs (by rw[ux];exact j)
structure Hg (g:List Ty) (f:Fm):Prop where
 err:f.err=0
 ty:kM g f
def Hg.abc{g:List Ty}{f:Fm}(h:Hg g f):f.abc<=4096:=(Fm.hZ h.err).2
def Hg.ok{g:List Ty}{f:Fm}(h:Hg g f):f.ok=true:=(Fm.hZ h.err).1
def Hg.abg{g:List Ty}{f:Fm}(h:Hg g f)(hg:g.length<=16){m:Int}(hm:5000<=m):f.abg m=true:=h.ty.abg m (by have:=h.abc;omega)
def Hg.hy{g:List Ty}{f:Fm}(h:Hg g f)(hg:g.length<=16):Hy f:=⟨h.err,h.abg hg (by omega)⟩
def Hg.up{g:List Ty}{f:Fm}(h:Hg g f)(l:List Ty):Hg (g++l) (f.up 0 l.length):=by
 have hn:=Fm.qV f 0 l.length;obtain⟨a,b⟩:=Fm.hZ h.err;refine⟨?_,h.ty.lift l⟩;unfold Fm.err;rw[Fm.Je f 0 l.length (by omega) (by omega),a,ee rfl,hn,ea (by omega)]
structure PG (L:List Fm) (p:eh) (c:ej):Prop where
 pl:SN p c
 NF:c.lemmas=L
 WQ:∀f∈L,Hg [] f
 abh:∀f∈c.abh,Hg c.abe f
def PG.Qg{L:List Fm}{p:eh}{c:ej}(h:PG L p c){l:List Ty}(j:kf l)(hn:c.abe.length+l.length<=16):∃d a,fZ p l=some d/\fK c l=some a/\PG L d a/\a.abe=c.abe++l/\a.abh=c.abh.map (Fm.up 0 l.length):=by
 obtain⟨d,a,k,m,n,o,g,i⟩:=h.pl.below j hn (λf b=>⟨(h.abh f b).err,(h.abh f b).abg h.pl.nv (by omega)⟩);refine⟨d,a,k,m,⟨n,o.trans h.NF,h.WQ,λf b=>?_⟩,g,i⟩;rw[i] at b;obtain⟨f0,e,rfl⟩:=od.1 b;rw[g];exact(h.abh f0 e).up l
def PG.below{L:List Fm}{p:eh}{c:ej}(h:PG L p c){s:Ty}(hs:s.err=0)(hn:c.abe.length+1<=16):∃b a,fZ p [s]=some b/\fK c [s]=some a/\PG L b a/\a.abe=c.abe++[s]/\a.abh=c.abh.map (Fm.up 0 1):=
 h.Qg (l:=[s]) (λx d=>by rw[xG.1 d];exact hs) hn
def PG.with{L:List Fm}{p:eh}{c:ej}(h:PG L p c){f:Fm}(d:Hg c.abe f)(hn:c.abh.length+1<=16):∃b a,gi p f=some b/\gE c f=some a/\PG L b a/\a.abe=c.abe/\a.abh=c.abh++[f]:=by
 obtain⟨b,a,i,j,k,l,e,g⟩:=h.pl.with (d.hy h.pl.nv) hn;refine⟨b,a,i,j,⟨k,l.trans h.NF,h.WQ,λx hx=>?_⟩,e,g⟩;rw[g] at hx;rw[e];rcases sy.1 hx with hx|hx
 ·exact h.abh x hx
 ·rw[xG.1 hx];exact d
def PG.room{L:List Fm}{p:eh}{c:ej}(h:PG L p c){v k:Nat}(e:v<=100)(f:k<=100):(eV p.gk v k=some 0/\eT c v k=some 0/\c.abe.length+v<=16/\c.abh.length+k<=16)\/(eV p.gk v k=some 3/\eT c v k=some 3/\(16<c.abe.length+v\/16<c.abh.length+k)):=by
 unfold eV eT;have b:=h.pl.vars;have d:=h.pl.abh;have g:=h.pl.nv;have i:=h.pl.nh;rw[b,d,fO,fO,fu (by omega) (by omega),fu (by omega) (by omega),l7]
 by_cases a:(nS ((c.abe.length:Int)+v) 16||nS ((c.abh.length:Int)+k) 16)=true
 ·rw[ee a];simp only[p8,gD] at a;exact .inr ⟨rfl,rfl,by omega⟩
 ·rw[ea a];simp only[p8,gD,not_or] at a;exact .inl ⟨rfl,rfl,by omega,by omega⟩
def Bk.len{N:Int}:∀{l:List Int} {lo:Int},Bk l->(∀x∈l,lo<=x/\x<N)->(l.length:Int)<=max 0 (N-lo)
 |[],lo,_,_=>by simp;omega|a::l,lo,.cons c d,h=>by
  have e:=h a (by simp);have f:=Bk.len (lo:=a+1) d (λx b=>⟨by have:=c x b;omega,(h x (by simp[b])).2⟩);simp only[lL];omega
def Us.len{l:List Int}{m:Nat}(h:Us l m):l.length<=32:=by
 have:=Bk.len (N:=32) (lo:=0) h.UH (λx a=>⟨h.pos x a,h.bound x a⟩);omega
def fk.Na{g:List Ty}{x:Tm}{t:Ty}(h:fk g x t):∀j:Int,(g.length:Int)<=j->x.abi j=0:=by
 induction h with
 |@var g t i k l=>
  intro j a;rw[Tm.gU,ea (λh=>by have:=h.2;omega)];rfl
 |@lam g s b t k _ e=>
  intro j a;rw[Tm.gU,ea (λh=>by cases h.1)];simp only[eC];rw[e (j+gC 2) (by show _<=j+1;simp;omega)]
 |app _ _ c d=>intro j a;rw[Tm.gU,ea (λh=>by cases h.1)];simp only[eC,show gC 3=0 from rfl,yu,c j a,d j a]
 |zero=>intro j a;rw[Tm.gU,ea (λh=>by cases h.1)];rfl
 |succ _ e=>intro j a;rw[Tm.gU,ea (λh=>by cases h.1)];simp only[eC,show gC 5=0 from rfl,yu,e j a]
 |uq k _ _ _ c d f=>intro j a;rw[Tm.gU,ea (λh=>by cases h.1)];simp only[eC,show gC 6=0 from rfl,yu,c j a,d j a,f j a]
 |nil=>intro j a;rw[Tm.gU,ea (λh=>by cases h.1)];rfl
 |cons _ _ c d=>intro j a;rw[Tm.gU,ea (λh=>by cases h.1)];simp only[eC,show gC 8=0 from rfl,yu,c j a,d j a]
 |fold k _ _ _ c d f=>intro j a;rw[Tm.gU,ea (λh=>by cases h.1)];simp only[eC,show gC 9=0 from rfl,yu,c j a,d j a,f j a]
 |pair k _ _ c d=>intro j a;rw[Tm.gU,ea (λh=>by cases h.1)];simp only[eC,show gC 10=0 from rfl,yu,c j a,d j a]
 |fst _ e=>intro j a;rw[Tm.gU,ea (λh=>by cases h.1)];simp only[eC,show gC 11=0 from rfl,yu,e j a]
 |snd _ e=>intro j a;rw[Tm.gU,ea (λh=>by cases h.1)];simp only[eC,show gC 12=0 from rfl,yu,e j a]
 |unit=>intro j a;rw[Tm.gU,ea (λh=>by cases h.1)];rfl
def hW:Fm:=.mk 0 (.mk 0 []) [] []
def Jh(k:Option (ec×Int)):Option (ec×Int):=
 ei k λa b=>
 if(eW b 0)=true then(
 some ((ec.mk (Fm.mk 0 (Ty.mk 0 []) [] []) 0),b))
 else(cv (kz a.eg) λd=>
 if(eW d 0)=true then(
 some ((ec.mk (Fm.mk 0 (Ty.mk 0 []) [] []) 0),4))
 else(eJ (λ(v30:Int)=>
 some ((ec.mk a.eg v30),0)) λc=>
 ei (px a.eg) λe f=>
 if e=true then(
 c a.gp)
 else(c 0)))
def Kg(r:Option (Fm×List Int×Int)):Option (rN×Int):=
 iG r λb g f=>
 if(eW f 0)=true then(
 some ((rN.mk (Fm.mk 0 (Ty.mk 0 []) [] []) []),f))
 else(cv (kY b) λc=>
 if(eW c 0)=true then(
 some ((rN.mk (Fm.mk 0 (Ty.mk 0 []) [] []) []),4))
 else(eJ (λ(d:List Int)=>
 some ((rN.mk b d),0)) λa=>
 ei (pB b) λe h=>
 if e=true then(
 a g)
 else(a [])))
def Cy{α:Type}{F:Int->α->Unit->Option (gu Unit Bool)}(w:α->Nat):∀(l:List α) (i:Nat),(∀j x,x∈l->F j x ()=if 0<w x then some (.ret true)else some (.next ()))->ft F l i ()=some (if 0<eC w l then .inr true else .inl ())
 |[],i,_=>rfl|x::l,i,h=>by
  have c:=Cy w l (i+1) (λj y hy=>h j y (by simp[hy]));rw[fm,h i x (by simp)]
  by_cases a:0<w x
  ·rw[ee a,ee (show 0<eC w (x::l) by simp only[eC];omega)];rfl
  ·rw[ea a];show ft F l (i+1) ()=_;rw[c]
   by_cases b:0<eC w l
   ·rw[ee b,ee (show 0<eC w (x::l) by simp only[eC];omega)]
   ·rw[ea b,ea (show¬0<eC w (x::l) by simp only[eC];omega)]
def Kn:∀(n:Nat) (t:Tm) (a:Int),t.abc<=n->t.abc<=1000000000->0<=a->a+t.abc<=10000000000->sV n t a=some (decide (0<t.abi a)):=by
 intro n
 induction n with
 |zero=>intro t a h;have:=t.eQ;omega
 |succ n f=>
  intro t a h d o e;cases t with
  |mk k i s l=>
   rw[Tm.ef] at h d e;have p:=Tm.fQ l;have q:=ly k;rw[sV,Tm.gU];simp only[Tm.eG,Tm.gy,Tm.eN,ey,q_,gL,gB]
   by_cases c:k=1/\i=a
   ·rw[ee c,ee c]
    congr 1
    exact(vF (by omega)).symm
   ·rw[ea c,ea c,eE (by omega),eo,Cy (Tm.abi (a+gC k)) l 0 (λj x g=>by
     have m:=eL Tm.abc g;rw[ou,cl,Tm.eN,fu (by omega) (by omega),f x (a+gC k) (by omega) (by omega) (by omega) (by omega),cl]
     by_cases b:0<x.abi (a+gC k)
     ·rw[ee b,ee (vF b)]
     ·rw[ea b,ea (by simpa using b)]),cl,vt]
    by_cases b:0<eC (Tm.abi (a+gC k)) l
    ·rw[ee b,qi,vF b]
    ·rw[ea b,en,Dw b]
def Ce:∀(n:Nat) (t:Fm) (a:Int),t.abc<=n->t.abc<=1000000000->0<=a->a+t.abc<=10000000000->pz n t a=some (decide (0<t.abi a)):=by
 intro n
 induction n with
 |zero=>intro t a h;have:=t.eQ;omega
 |succ n i=>
  intro t a h c o d;cases t with
  |mk k s ts l=>
   rw[Fm.ef] at h c d;have p:=Fm.fQ l;have m:=Tm.fQ ts;have q:=BU k;rw[pz,Fm.gU];simp only[Fm.eG,Fm.hU,ey]
   rw[eE (by omega),eo,Cy (Tm.abi a) ts 0 (λj x e=>by
    have f:=eL Tm.abc e;rw[Kn FU x a (by rw[fy];omega) (by omega) (by omega) (by omega),cl]
    by_cases b:0<x.abi a
    ·rw[ee b,ee (vF b)]
    ·rw[ea b,ea (by simpa using b)]),cl]
   by_cases g:0<eC (Tm.abi a) ts
   ·rw[ee g,qi,vF (by omega)]
   ·rw[ea g,en,eE (by omega),eo,Cy (Fm.abi (a+qB k)) l 0 (λj x e=>by
     have f:=eL Fm.abc e;rw[pY,cl,Fm.eN,fu (by omega) (by omega),i x (a+qB k) (by omega) (by omega) (by omega) (by omega),cl]
     by_cases b:0<x.abi (a+qB k)
     ·rw[ee b,ee (vF b)]
     ·rw[ea b,ea (by simpa using b)]),cl]
    by_cases b:0<eC (Fm.abi (a+qB k)) l
    ·rw[ee b,qi,vF (by omega)]
    ·rw[ea b,en,Dw (by omega)]
def Tm.Cv(s:Tm):∀(t:Tm) (n:Int),t.ok=true->t.abi n=0->Tm.m7 n t s=t.up (n+1) (-1):=by
 intro t
 induction t using Tm.ind with
 |h k i ty l g=>
  intro n d e;have hi:=Tm.l6 d;rw[Tm.gU] at e;rw[Tm.nU,Tm.l0]
  by_cases a:k=1
  ·subst a;obtain⟨rfl,rfl⟩:=Tm.QY d
   have b:i≠n:=λh=>by rw[ee ⟨rfl,h⟩] at e;omega
   rw[ee rfl];unfold Tm.vh;rw[ea b]
   by_cases f:n<i
   ·rw[ee f,ee ⟨rfl,by omega⟩];rfl
   ·rw[ea f,ea (λh=>by omega)];rfl
  ·rw[ea a,ea (λh=>a h.1)]
   congr 1
   refine xx λx c=>?_;have:=eL (Tm.abi (n+gC k)) c;rw[g x c (n+gC k) (hi.2.2.2.1 x c) (by omega),show n+gC k+1=n+1+gC k by omega]
def Fm.Cv(s:Tm):∀(t:Fm) (n:Int),t.ok=true->t.abi n=0->Fm.m7 n t s=t.up (n+1) (-1):=by
 intro t
 induction t using Fm.ind with
 |h k ty ts l b=>
  intro n c d;obtain⟨_,e,f⟩:=Fm.tv c;rw[Fm.gU] at d;rw[Fm.nU,Fm.l0]
  congr 1
  ·refine xx λx a=>?_;have:=eL (Tm.abi n) a;exact Tm.Cv s x n (e x a) (by omega)
  ·refine xx λx a=>?_;have:=eL (Fm.abi (n+qB k)) a;rw[b x a (n+qB k) (f x a) (by omega),show n+qB k+1=n+1+qB k by omega]
def Jr:∀(n:Nat) (t:Tm) (f:Int),t.abc<=n->t.abc<=1000000000->0<=f->f+t.abc<=10000000000->t.abg 1000000000000=true->qg n t f (-1)=some (t.up f (-1)):=by
 intro n
 induction n with
 |zero=>intro t f h;have:=t.eQ;omega
 |succ n o=>
  intro t f h a u b hi;cases t with
  |mk k i s l=>
   rw[Tm.ef] at h a b;rw[Tm.fT] at hi;simp only[gL,ni,k4] at hi;have w:=Tm.fQ l;have y:=ly k;rw[qg];simp only[Tm.eG,Tm.gy,Tm.eN,Tm.fv,ey,eE (l:=l) (by omega),eo];rw[iT (Tm.up (f+gC k) (-1)) l 0 [] (by simp;omega)]
   ·rw[Tm.l0];simp only[cl,en,oh,sH,Tm.mk.injEq,Pr,FK]
    by_cases c:k=1/\f<=i
    ·obtain⟨rfl,d⟩:=c;rw[fu (by omega) (by omega)];have p:eH 1 1=true:=rfl
     have q:tq i f=true:=by simp[d]
     simp[p,q,d]
    ·rw[ea c]
     have e:fU (eH k 1) (tq i f) false=false:=by
      rw[q_,MT];simp only[ne_eq,gL,gB,jk];exact c
     rw[e];rfl
   ·intro j x v g r;have:=eL Tm.abc g;rw[ou];simp only[cl,Tm.eN];rw[fu (by omega) (by omega),o x (f+gC k) (by omega) (by omega) (by omega) (by omega) (hi.2 x g)];simp[fl (l:=v) (m:=[x.up (f+gC k) (-1)]) (by simpa using r)]
def CH:∀(n:Nat) (t:Fm) (f:Int),t.abc<=n->t.abc<=1000000000->0<=f->f+t.abc<=10000000000->t.abg 1000000000000=true->gT n t f (-1)=some (t.up f (-1)):=by
 intro n
 induction n with
 |zero=>intro t f h;have:=t.eQ;omega
 |succ n e=>
  intro t f h b g c hi;cases t with
  |mk k s ts l=>
   rw[Fm.ef] at h b c;rw[Fm.fT] at hi;simp only[gL,k4] at hi;have o:=Fm.fQ l;have i:=Tm.fQ ts;have p:=BU k;rw[gT];simp only[Fm.eG,Fm.hU,Fm.eN,Fm.fv,ey,eE (l:=l) (by omega),eE (l:=ts) (by omega),eo];rw[iT (Tm.up f (-1)) ts 0 [] (by simp;omega)]
   ·simp only[cl,en];rw[iT (Fm.up (f+qB k) (-1)) l 0 [] (by simp;omega)]
    ·simp[Fm.l0]
    ·intro j x v a d;have:=eL Fm.abc a;rw[pY];simp only[cl,Fm.eN];rw[fu (by omega) (by omega),e x (f+qB k) (by omega) (by omega) (by omega) (by omega) (hi.2 x a)];simp[fl (l:=v) (m:=[x.up (f+qB k) (-1)]) (by simpa using d)]
   ·intro j x v a d;have:=eL Tm.abc a;rw[Jr FU x f (by rw[fy];omega) (by omega) g (by omega) (hi.1 x a)];simp[fl (l:=v) (m:=[x.up f (-1)]) (by simpa using d)]
def PW:F3 Tm.z:=by
 show F3 (Tm.mk 0 0 (Ty.mk 0 []) []);intro c b d;have a:FU=999999999+1:=fy;unfold rC oR;rw[a,h_,ea (show¬(eH (Tm.mk 0 0 (Ty.mk 0 []) []).aba 1=true) by decide)];simp only[Tm.eN,Tm.fv,Tm.eG,Tm.gy,ey];rw[py (by decide),cl,eE (by decide),eo];rfl
def tr{f:Fm}(a:f.ok=true)(hn:f.abc<=50000000)(b:f.abg 1000000000000=true)(c:f.abi 0=0):k1 f 0 (Tm.mk 0 0 (Ty.mk 0 []) [])=some (f.up 1 (-1)):=by
 rw[show Tm.mk 0 0 (Ty.mk 0 []) []=Tm.z from rfl,vw a hn b PW (by omega) (by omega),Fm.Cv _ f 0 a c];rfl
noncomputable def CI (x:Tm) (e:Int):Tm×Int:=if e=0 then((x.norm 1000 0).1,(x.norm 1000 0).2.2)else(x,e)
def qv{α:Type}(f:α->Int->α×Int):List α->Int->List α×Int
 |[],e=>([],e)|x::l,e=>((f x e).1::(qv f l (f x e).2).1,(qv f l (f x e).2).2)
mutual
noncomputable def Fm.xn:Fm->Int->Fm×Int
 |.mk k s ts l,e=>(.mk k s (qv CI ts e).1 (Fm.ML l (qv CI ts e).2).1,(Fm.ML l (qv CI ts e).2).2)
noncomputable def Fm.ML:List Fm->Int->List Fm×Int
 |[],e=>([],e)|f::l,e=>((f.xn e).1::(Fm.ML l (f.xn e).2).1,(Fm.ML l (f.xn e).2).2)
end
def Fm.Oj:∀(l:List Fm) (e:Int),Fm.ML l e=qv Fm.xn l e
 |[],e=>by rw[Fm.ML,qv]|f::l,e=>by rw[Fm.ML,qv,Fm.Oj l]
def Fm.DF(k:Int)(s:Ty)(ts:List Tm)(l:List Fm)(e:Int):(Fm.mk k s ts l).xn e=(.mk k s (qv CI ts e).1 (qv Fm.xn l (qv CI ts e).2).1,(qv Fm.xn l (qv CI ts e).2).2):=by rw[Fm.xn,Fm.Oj]
def uB{α:Type}{f:α->Int->α×Int}:∀(l:List α) (e:Int),(∀x∈l,∀e,e≠0->(f x e).2=e)->e≠0->(qv f l e).2=e
 |[],e,_,_=>rfl|x::l,e,h,he=>by
  have a:=h x (by simp) e he;simp only[qv];rw[a];exact uB l e (λy hy=>h y (by simp[hy])) he
def FI{x:Tm}{e:Int}(he:e≠0):(CI x e).2=e:=by unfold CI;rw[ea he]
def Fm.KP(f:Fm):∀e:Int,e≠0->(f.xn e).2=e:=by
 induction f using Fm.ind with
 |h k s ts l a=>
  intro e he;rw[Fm.DF];have b:=uB (f:=CI) ts e (λx _ e he=>FI he) he;simp only[];rw[b];exact uB l e a he
def Dg{α ρ:Type}{E:α->Int->Option (α×Int)}{f:α->Int->α×Int}:∀(l:List α) (j:Nat) (v:List α) (e:Int),(∀x∈l,∀e,E x e=some (f x e))->v.length+l.length<=1000000000->ft (λ(k:Int) (c:α)=>(sD λ(v91:List α) (d:Int)=>
   ei (E c d) λa b=>
   g_ (gf v91 [a])<|some ((.next ((gv v91 [a]),b)):gu ((List α)×Int) ρ))) l j (v,e)=some (.inl (v++(qv f l e).1,(qv f l e).2))
 |[],j,v,e,_,_=>by simp[qv]|x::l,j,v,e,h,m=>by
  simp only[lL] at m;rw[fm];simp only[sD];rw[h x (by simp) e];obtain⟨y,g,i⟩:∃y g,f x e=(y,g):=⟨_,_,rfl⟩;rw[i];rw[eb,fl (by simp;omega),eo];simp only[cl,fA];rw[gG];have:=Dg (ρ:=ρ) l (j+1) (v++[y]) g (λz n=>h z (by simp[n])) (by simp;omega);rw[this];simp only[qv,i];simp
structure Nm (x:Tm):Prop where
 err:x.err=0
 abg:x.abg 536870912=true
def Nm.both{x:Tm}(h:Nm x):kA x 1000=some (x.norm 1000 0)/\mw x 1000=some (x.norm 1000 0):=by
 obtain⟨b,hn⟩:=Iy h.err;have hw:=x.jx b;have a:=wT (t:=x) (by omega) 1000;rw[ee h.err,ee ⟨by omega,by omega,h.abg⟩] at a;obtain⟨p,m,e,c,d,_⟩:=zi (t:=x) (by omega) 1000;have a:kA x 1000=some (x.norm 1000 0):=a;refine⟨a,?_⟩;rw[d,<-c,a]
def Ac{x:Tm}(h:Nm x)(b e:Int):kg x b e=some (CI x e):=by
 unfold kg CI
 by_cases he:e=0
 ·rw[ee he,ea (by rw[eA];simpa using he),h.both.1];rfl
 ·rw[ea he,ee (by rw[eA];exact he)]
inductive TU:Fm->Prop
 |mk {k s ts l}:(∀x∈ts,Nm x)->(∀f∈l,TU f)->TU (.mk k s ts l)
def TU.of(f:Fm):f.abc<=4096->f.ok=true->f.abg 536870912=true->TU f:=by
 induction f using Fm.ind with
 |h k s ts l d=>
  intro hn e b;obtain⟨_,g,i⟩:=Fm.tv e;rw[Fm.ef] at hn;rw[Fm.fT,gL,k4,k4] at b;refine .mk (λx c=>⟨?_,b.1 x c⟩) (λf a=>?_)
  ·have:=eL Tm.abc c;unfold Tm.err;rw[ee (g x c),ea (by omega)]
  ·have:=eL Fm.abc a;exact d f a (by omega) (i f a) (b.2 f a)
def L7:∀(n:Nat) (f:Fm) (b e:Int),f.abc<=n->f.abc<=1000000->f.ok=true->TU f->fq n f b (λ(s:Int) (c:Tm) (d:Int)=>kg c d s) e=some (f.xn e):=by
 intro n
 induction n with
 |zero=>intro f b e h;have:=f.eQ;omega
 |succ n m=>
  intro f b e hn o p hm;cases f with
  |mk k s ts l=>
   cases hm with
   |mk q r=>
    rw[Fm.ef] at hn o;have u:=iu Tm.abc ts λt _=>t.eQ;have v:=iu Fm.abc l λt _=>t.eQ;obtain⟨w,z,g⟩:=Fm.tv p;rw[fq,Fm.DF];simp only[Fm.fv,Fm.eG,Fm.eN,Fm.hU,ey];rw[py (by omega),cl,eE (by omega),eo];rw[Dg (E:=λy s=>kg y b s) (f:=CI) ts 0 [] e (λx a e=>Ac (q x a) b e) (by simp;omega),cl];simp only[en,sD,oh];rw[oY,cl]
    have loop:=λi=>Dg (ρ:=Fm×Int) (E:=λy s=>fq n y i (λ(s:Int) (c:Tm) (d:Int)=>kg c d s) s) (f:=Fm.xn) l 0 [] (qv CI ts e).2 (λx a e=>by
     have:=eL Fm.abc a
     exact m x i e (by omega) (by omega) (g x a) (r x a)) (by simp;omega)
    by_cases j:kR k=true
    ·rw[ee j,eE (by omega),eo,loop,cl];simp
    ·rw[ea j,eE (by omega),eo,loop,cl];simp
def EC:∀(n:Nat) (f:Fm),f.abc<=n->f.abc<=1000000->TU f->my n f=some (if(f.xn 0).2=0 then((f.xn 0).1,0)else(hW,(f.xn 0).2)):=by
 intro n
 induction n with
 |zero=>intro f h;have:=f.eQ;omega
 |succ n H=>
  intro f hn I hm;cases f with
  |mk k s ts l=>
   cases hm with
   |mk J K=>
    rw[Fm.ef] at hn I;have L:=iu Tm.abc ts λt _=>t.eQ;have M:=iu Fm.abc l λt _=>t.eQ;rw[my,Fm.DF];simp only[Fm.fv,Fm.eG,Fm.eN,Fm.hU,ey];rw[eE (by omega),eo]
    have p:∀(us:List Tm) (j:Nat) (v:List Tm),(∀t∈us,Nm t)->v.length+us.length<=1000000000->ft (λ(N:Int) (B:Tm)=>(λ(w:List Tm)=>
       iG (mw B 1000) λc E d=>
       if(eW d 0)=true then(
       some (.ret ((Fm.mk 0 (Ty.mk 0 []) [] []),d)))
       else(g_ (gf w [c])<|some ((.next (gv w [c])):gu (List Tm) (Fm×Int))))) us j v=some (if(qv CI us 0).2=0 then .inl (v++(qv CI us 0).1)else .inr (hW,(qv CI us 0).2)):=by
     intro us
     induction us with
     |nil=>intro j v _ _;simp[qv]|cons t us q=>
      intro j v hm C;simp only[lL] at C;rw[fm,(hm t (by simp)).both.2]
      have D:CI t 0=((t.norm 1000 0).1,(t.norm 1000 0).2.2):=by unfold CI;rw[ee rfl]
      obtain⟨y,m,a,z⟩:∃y m a,t.norm 1000 0=(y,m,a):=⟨_,_,_,rfl⟩;rw[z] at D|-;rw[o_]
      by_cases he:a=0
      ·subst he;rw[ea (by decide),fl (by simp;omega),eo];simp only[cl,fA];rw[gG,q (j+1) (v++[y]) (λu hu=>hm u (by simp[hu])) (by simp;omega)];simp only[qv,D];simp
      ·rw[ee (by rw[eA];exact he)];simp only[qv,D];rw[uB (f:=CI) us a (λx _ e he=>FI he) he,ea he];rfl
    have r:∀(us:List Fm) (j:Nat) (v:List Fm),(∀t∈us,TU t/\t.abc<=n/\t.abc<=1000000)->v.length+us.length<=1000000000->ft (λ(F:Int) (A:Fm)=>(λ(g:List Fm)=>
       ei (my n A) λi o=>
       if(eW o 0)=true then(
       some (.ret ((Fm.mk 0 (Ty.mk 0 []) [] []),o)))
       else(g_ (gf g [i])<|some ((.next (gv g [i])):gu (List Fm) (Fm×Int))))) us j v=some (if(qv Fm.xn us 0).2=0 then .inl (v++(qv Fm.xn us 0).1)else .inr (hW,(qv Fm.xn us 0).2)):=by
     intro us
     induction us with
     |nil=>intro j v _ _;simp[qv]|cons t us q=>
      intro j v hm C;simp only[lL] at C;obtain⟨a1,a2,a3⟩:=hm t (by simp);rw[fm,H t a2 a3 a1];obtain⟨y,a,z⟩:∃y a,t.xn 0=(y,a):=⟨_,_,rfl⟩;rw[z]
      by_cases he:a=0
      ·subst he;simp only[if_true];rw[eb,ea (by decide),fl (by simp;omega),eo];simp only[cl,fA];rw[gG,q (j+1) (v++[y]) (λu hu=>hm u (by simp[hu])) (by simp;omega)];simp only[qv,z];simp
      ·simp only[ea he];rw[eb,ee (by rw[eA];exact he)];simp only[qv,z];rw[uB (f:=Fm.xn) us a (λx _ e he=>Fm.KP x e he) he,ea he];rfl
    rw[p ts 0 [] J (by simp;omega),cl]
    by_cases he:(qv CI ts 0).2=0
    ·rw[ee he,en,eE (by omega),eo,r l 0 [] (λt G=>by
      have:=eL Fm.abc G
      exact⟨K t G,by omega,by omega⟩) (by simp;omega),cl,he]
     by_cases b:(qv Fm.xn l 0).2=0
     ·rw[ee b,ee b,en,oh,oh]
     ·rw[ea b,ea b,qi]
    ·rw[ea he,qi,uB (f:=Fm.xn) l _ (λx _ e he=>Fm.KP x e he) he,ea he]
def Ty.X0:∀(n:Nat) (s:Ty),s.abc<=n->s.err=0->∃a,fk [] a s:=by
 intro n
 induction n with
 |zero=>intro s h;have:=s.eQ;omega
 |succ n c=>
  intro s hn he;rcases Ty.rj he with rfl|rfl|rfl|⟨a,b,rfl,e,d⟩|⟨a,b,rfl,e,d⟩
  ·exact⟨_,.zero⟩
  ·exact⟨_,.nil⟩
  ·exact⟨_,.unit⟩
  ·rw[Ty.va] at hn;obtain⟨x,f⟩:=c a (by omega) e;obtain⟨y,hy⟩:=c b (by omega) d;exact⟨_,.pair he f hy⟩
  ·rw[Ty.j1] at hn;obtain⟨y,hy⟩:=c b (by omega) d;exact⟨_,.lam he (by have:=hy.front [a];simpa using this)⟩
def kM.down{g:List Ty}{s:Ty}{f:Fm}(h:kM (g++[s]) f)(hs:s.err=0)(c:f.abi 0=0):kM g (f.up 1 (-1)):=by
 obtain⟨a,d⟩:=Ty.X0 _ s (jh _) hs
 have b:fk g a s:=by simpa using d.front g
 have:=h.put b
 rwa [Fm.Cv a f 0 h.ok c] at this
def fk.nm{g:List Ty}{x:Tm}{t:Ty}(h:fk g x t)(hg:g.length<=1000000)(a:x.abc<=4096):Nm x:=by
 refine⟨?_,h.abg _ (by omega)⟩;unfold Tm.err;rw[ee h.ok,ea (by omega)]
def R7{g:List Ty}{x:Tm}{t:Ty}(h:fk g x t)(hg:g.length<=1000000)(b:x.abc<=4096){e:Int}(he:(CI x e).2=0):e=0/\fk g (CI x e).1 t/\(CI x e).1.abc<=4096:=by
 by_cases c:e=0
 ·subst c;unfold CI at he|-;simp only[if_true] at he|-;obtain⟨a,n,f,d⟩:∃a n f,x.norm 1000 0=(a,n,f):=⟨_,_,_,rfl⟩;rw[d] at he|-;simp only[] at he|-;subst he;exact⟨trivial,fk.norm _ _ _ _ _ h d,(J7 1000 536870912 0 x a n (by omega) (Sm.start (h.nm hg b).err (h.nm hg b).abg) b d).2⟩
 ·rw[FI c] at he;exact absurd he c
def TI(a b:Tm)(e:Int):(Fm.mk 1 .z [a,b] []).xn e=(.mk 1 .z [(CI a e).1,(CI b (CI a e).2).1] [],(CI b (CI a e).2).2):=by rw[Fm.DF];rfl
def S1(k:Int)(a b:Fm)(e:Int):(Fm.mk k .z [] [a,b]).xn e=(.mk k .z [] [(a.xn e).1,(b.xn (a.xn e).2).1],(b.xn (a.xn e).2).2):=by rw[Fm.DF];rfl
def XJ(k:Int)(s:Ty)(a:Fm)(e:Int):(Fm.mk k s [] [a]).xn e=(.mk k s [] [(a.xn e).1],(a.xn e).2):=by rw[Fm.DF];rfl
def NP{g:List Ty}{f:Fm}(h:kM g f):∀(e:Int),g.length+f.abc<=1000000->f.abc<=4096->(f.xn e).2=0->e=0/\kM g (f.xn e).1/\(f.xn e).1.abc<=3000*f.abc:=by
 induction h with
 |@eq g a b c n=>
  intro e hg hn he;rw[TI] at he|-;rw[Fm.ef] at hn hg|-;simp only[eC] at hn hg|-;obtain⟨d,i,o⟩:=R7 n (by omega) (by omega) he;obtain⟨a1,a2,a3⟩:=R7 c (by omega) (by omega) d;refine⟨a1,.eq a2 i,?_⟩;rw[Fm.ef];simp only[eC];have:=a.eQ;have:=b.eQ;omega
 |@two g k a b j c n l m=>
  intro e hg hn he;rw[S1] at he|-;rw[Fm.ef] at hn hg|-;simp only[eC] at hn hg|-;obtain⟨d,i,o⟩:=m _ (by omega) (by omega) he;obtain⟨a1,a2,a3⟩:=l _ (by omega) (by omega) d;refine⟨a1,.two j a2 i,?_⟩;rw[Fm.ef];simp only[eC];omega
 |@q g k s a j hs c p=>
  intro e hg hn he;rw[XJ] at he|-;rw[Fm.ef] at hn hg|-;simp only[eC] at hn hg|-;obtain⟨a1,a2,a3⟩:=p _ (by simp;omega) (by omega) he;refine⟨a1,.q j hs a2,?_⟩;rw[Fm.ef];simp only[eC];omega
noncomputable def GI (f:Fm):Fm×Int:=if f.abi 0=0 then(f.up 1 (-1),0)else if(f.xn 0).2≠0 then(hW,(f.xn 0).2)else if(f.xn 0).1.abi 0≠0 then(hW,6)else((f.xn 0).1.up 1 (-1),0)
def RC{g:List Ty}{s:Ty}{f:Fm}(h:Hg (g++[s]) f)(hg:g.length<=1000)(hs:s.err=0)(a:(GI f).2=0):kM g (GI f).1/\(GI f).1.abc<=3000*4096:=by
 have hn:=h.abc;unfold GI at a|-
 split
 ·rename_i c;refine⟨h.ty.down hs c,?_⟩;show(f.up 1 (-1)).abc<=_;rw[Fm.qV];omega
 ·rename_i c;rw[ea c] at a
  split
  ·rename_i b;rw[ee b] at a;exact absurd a b
  ·rename_i b;rw[ea b] at a
   split
   ·rename_i d;rw[ee d] at a;cases a
   ·rename_i d;obtain⟨_,a2,a3⟩:=NP h.ty 0 (by simp;omega) hn (y8.1 b);refine⟨a2.down hs (by omega),?_⟩;show((f.xn 0).1.up 1 (-1)).abc<=_;rw[Fm.qV];omega
def vW{g:List Ty}{s:Ty}{f:Fm}(h:Hg (g++[s]) f)(hg:g.length<=1000):mP f=some (GI f):=by
 have hn:=h.abc;have k:f.abg 1000000000000=true:=h.ty.abg _ (by simp;omega);unfold mP GI;rw[p0 h.ok (by omega) k (by omega) (by omega),cl]
 by_cases d:f.abi 0=0
 ·rw[ee d,ee (by rw[gB];omega),tr h.ok (by omega) k d];rfl
 ·rw[ea d,ea (by rw[gB];omega),L7 FU f 0 0 (by rw[fy];omega) (by omega) h.ok (TU.of f hn h.ok (h.ty.abg _ (by simp;omega)))];obtain⟨a,e,i⟩:∃a e,f.xn 0=(a,e):=⟨_,_,rfl⟩;rw[i,eb];simp only[]
  by_cases he:e=0
  ·subst he;rw[ea (by decide),ea (by decide)];have b:=NP h.ty 0 (by simp;omega) hn (by rw[i]);rw[i] at b;obtain⟨_,a2,a3⟩:=b;have a2:kM (g++[s]) a:=a2;have a3:a.abc<=3000*f.abc:=a3;have c:a.abg 1000000000000=true:=a2.abg _ (by simp;omega);rw[p0 a2.ok (by omega) c (by omega) (by omega),cl]
   by_cases j:a.abi 0=0
   ·rw[ea (by rw[gD];omega),ea (by simpa using j),tr a2.ok (by omega) c j];rfl
   ·rw[ee (by rw[gD];omega),ee j];rfl
  ·rw[ee (by rw[eA];exact he),ee he];rfl
abbrev PR:=(Fm×Nat)⊕Int
def pbind(r:PR)(k:Fm->Nat->PR):PR:=match r with|.inl p=>k p.1 p.2|.inr e=>.inr e
def wF(c:Prop)[Decidable c](e:Int)(r:PR):PR:=if c then .inr e else r
def k5{c:Prop}[Decidable c]{e:Int}{r:PR}(h:c):wF c e r=.inr e:=ee h
def lq{c:Prop}[Decidable c]{e:Int}{r:PR}(h:¬c):wF c e r=r:=ea h
def ma(e:Int)(r:PR):PR:=if e=0 then r else .inr e
@[simp] theorem gS(f:Fm)(m:Nat)(k:Fm->Nat->PR):pbind (.inl (f,m)) k=k f m:=rfl
def iL{e:Int}{r:PR}(h:e=0):ma e r=r:=ee h
def jP{e:Int}{r:PR}(h:e≠0):ma e r=.inr e:=ea h
noncomputable def DG (r:PR):PR:=pbind r λf m=>if f.err=0 then .inl (f,if f.has=true then m else 0)else .inr 4
def EW(r:PR)(k:Int):PR:=pbind r λf m=>if f.aba=k then .inl (f,m)else .inr 10
noncomputable def Ey (a b:Fm):Int:=(lA a b).getD 0
noncomputable def J9 (r:PR) (F:Fm) (t:Tm):PR:=pbind r λf m=>ma (ot F t).2 (ma (Ey (ot F t).1 f) (.inl (f,m)))
def IU(t:Tm):Nat->Nat
 |0=>0|j+1=>if 0<t.abi j then IU t j|||2^j else IU t j
def wK(t:Tm):Nat:=IU t 32
def Iz(t:Tm):∀(n i:Nat),(IU t n).testBit i=true↔i<n/\0<t.abi i
 |0,i=>by simp[IU]|n+1,i=>by
  have c:=Iz t n i;rw[IU]
  by_cases h:0<t.abi n
  ·rw[ee h,SS,p8,c,Tc];simp only[ni];constructor
   ·rintro(⟨a,b⟩|rfl)
    ·exact⟨by omega,b⟩
    ·exact⟨by omega,h⟩
   ·rintro⟨a,b⟩
    by_cases hi:n=i
    ·exact .inr hi
    ·exact .inl ⟨by omega,b⟩
  ·rw[ea h,c];constructor
   ·rintro⟨a,b⟩;exact⟨by omega,b⟩
   ·rintro⟨a,b⟩;refine⟨?_,b⟩;rcases sA i n with hh|hh
    ·exact hh
    ·obtain rfl:i=n:=by omega
     exact absurd b h
def OY(t:Tm)(i:Nat):(wK t).testBit i=true↔i<32/\0<t.abi i:=Iz t 32 i
def v0:Tm:=.mk 1 0 (.mk 0 []) []
def v1:Tm:=.mk 1 1 (.mk 0 []) []
noncomputable def ql (L:List Fm) (k i:Int) (s:Ty) (ts:List Tm) (fs:List Fm) (sub:Nat->List Ty->List Fm->PR) (g:List Ty) (hs:List Fm):PR:=
 let t:=ts.getD 0 Tm.z
 let F:=fs.getD 0 hW
 if k=1 then wF ((hs.length:Int)<=i) 8 (.inl (hs.getD (hs.length-1-i.toNat) hW,0))
 else if k=2 then wF ((L.length:Int)<=i) 9 (.inl (L.getD i.toNat hW,0))
 else if k=3 then pbind (sub 0 g hs) λa m=>pbind (sub 1 g hs) λb n=>.inl (.mk 2 .z [] [a,b],m|||n)
 else if k=4 then pbind (EW (sub 0 g hs) 2) λa m=>.inl (a.abb.getD 0 hW,m)
 else if k=5 then pbind (EW (sub 0 g hs) 2) λa m=>.inl (a.abb.getD 1 hW,m)
 else if k=6 then ma (F.vE g) (wF (16<hs.length+1) 3 (pbind (sub 0 g (hs++[F])) λb m=>.inl (.mk 3 .z [] [F,b],m)))
 else if k=7 then pbind (EW (sub 0 g hs) 3) λa m=>pbind (sub 1 g hs) λb n=>ma (Ey (a.abb.getD 0 hW) b) (.inl (a.abb.getD 1 hW,m|||n))
 else if k=8 then wF (16<g.length+1) 3 (pbind (sub 0 (g++[s]) (hs.map (Fm.up 0 1))) λb m=>.inl (.mk 4 s [] [b],m/2))
 else if k=12 then wF (16<g.length+1) 3 (pbind (sub 0 (g++[s]) (hs.map (Fm.up 0 1))) λb m=>wF (m.testBit 0=true) 12 (.inl (.mk 6 s [] [b],m/2)))
 else if k=9 then ma (t.ty g).2 (pbind (EW (sub 0 g hs) 4) λa m=>wF ((t.ty g).1.nx a.dv=false) 7 (ma (ot (a.abb.getD 0 hW) t).2 (.inl ((ot (a.abb.getD 0 hW) t).1,m|||wK t))))
 else if k=13 then ma (t.ty g).2 (pbind (EW (sub 0 g hs) 6) λa m=>wF ((t.ty g).1.nx a.dv=false) 7 (ma (ot (a.abb.getD 0 hW) t).2 (.inl ((ot (a.abb.getD 0 hW) t).1,m))))
 else if k=10 then ma (F.vE g) (wF (F.aba≠5) 10 (ma (t.ty g).2 (wF ((t.ty g).1.nx F.dv=false) 7 (pbind (J9 (sub 0 g hs) (F.abb.getD 0 hW) t) λ_ m=>.inl (F,m|||wK t)))))
 else if k=14 then ma (F.vE g) (wF (F.aba≠7) 10 (ma (t.ty g).2 (wF ((t.ty g).1.nx F.dv=false) 7 (pbind (J9 (sub 0 g hs) (F.abb.getD 0 hW) t) λ_ m=>.inl (F,m)))))
 else if k=11 then pbind (EW (sub 0 g hs) 5) λa m=>wF (16<g.length+1\/16<hs.length+1) 3 (pbind (sub 1 (g++[a.dv]) (hs.map (Fm.up 0 1)++[a.abb.getD 0 hW])) λb n=>ma (GI b).2 (.inl ((GI b).1,m|||n/2)))
 else if k=15 then pbind (EW (sub 0 g hs) 7) λa m=>wF (16<g.length+1\/16<hs.length+1) 3 (pbind (sub 1 (g++[a.dv]) (hs.map (Fm.up 0 1)++[a.abb.getD 0 hW])) λb n=>ma (GI b).2 (wF (n.testBit 0=true) 12 (.inl ((GI b).1,m|||n/2))))
 else if k=16 then ma (F.vE (g++[.nat])) (ma (pH t g 1) (pbind (J9 (sub 0 g hs) F zF) λ_ m=>wF (16<g.length+1\/16<hs.length+1) 3 (
  pbind (J9 (sub 1 (g++[.nat]) (hs.map (Fm.up 0 1)++[F])) (F.up 1 1) (kQ v0)) λ_ n=>ma (ot F t).2 (.inl ((ot F t).1,(wK t|||m)|||n/2)))))
 else if k=17 then ma (F.vE (g++[.pQ])) (ma (pH t g 2) (pbind (J9 (sub 0 g hs) F (.mk 7 0 .z [])) λ_ m=>wF (16<g.length+2\/16<hs.length+1) 3 (
  pbind (J9 (sub 1 (g++[.nat]++[.pQ]) (hs.map (Fm.up 0 2)++[F.up 1 1])) (F.up 1 2) (.mk 8 0 .z [v1,v0])) λ_ n=>ma (ot F t).2 (.inl ((ot F t).1,(wK t|||m)|||n/4)))))
 else if k=18 then ma (pH t g 1) (.inl (.mk 1 .z [t,t] [],0))
 else if k=19 then ma (F.vE (g++[.nat])) (pbind (EW (sub 0 g hs) 1) λa _=>pbind (J9 (sub 1 g hs) F (a.ek.getD 0 Tm.z)) λ_ n=>ma (ot F (a.ek.getD 1 Tm.z)).2 (.inl ((ot F (a.ek.getD 1 Tm.z)).1,n)))
 else pbind (EW (sub 0 g hs) 4) λa m=>wF ((a.abb.getD 0 hW).aba≠5) 10 (wF ((Ty.fn a.dv (a.abb.getD 0 hW).dv).err≠0) 4 (wF ((ot (((a.abb.getD 0 hW).abb.getD 0 hW).up 2 1) (jS v1 v0)).2≠0) 4 (.inl (.mk 5 (Ty.fn a.dv (a.abb.getD 0 hW).dv) [] [.mk 4 a.dv [] [(ot (((a.abb.getD 0 hW).abb.getD 0 hW).up 2 1) (jS v1 v0)).1]],m))))
mutual
noncomputable def Pf.inf (L:List Fm):Pf->List Ty->List Fm->PR
 |.mk k i s ts fs l,g,hs=>DG (ql L k i s ts fs (Pf.ub L l) g hs)
noncomputable def Pf.ub (L:List Fm):List Pf->Nat->List Ty->List Fm->PR
 |[],_,_,_=>.inr 2|p::_,0,g,hs=>p.inf L g hs|_::l,n+1,g,hs=>Pf.ub L l n g hs
end
def ZP(g:List Ty)(s:PR)(k:Option (ec×Int))(r:Option (rN×Int)):Prop:=
 (∃e,e≠0/\s=.inr e/\k=some (⟨hW,0⟩,e)/\r=some (⟨hW,[]⟩,e))\/∃(f:Fm) (m:Nat) (l:List Int),s=.inl (f,m)/\k=some (⟨f,(m:Int)⟩,0)/\r=some (⟨f,l⟩,0)/\Us l m/\Hg g f
def mg(g:List Ty)(s:PR)(k:Option (ec×Int))(r:Option (Fm×List Int×Int)):Prop:=
 (∃e x f l,e≠0/\s=.inr e/\k=some (x,e)/\r=some (f,l,e))\/∃(f:Fm) (m:Nat) (l:List Int),s=.inl (f,m)/\k=some (⟨f,(m:Int)⟩,0)/\r=some (f,l,0)/\Us l m/\kM g f/\f.abc<=15000000
def mg.no{g:List Ty}{s:PR}{k:Option (ec×Int)}{r:Option (Fm×List Int×Int)}{e:Int}{x:ec}{f:Fm}{l:List Int}(he:e≠0)(a:s=.inr e)(b:k=some (x,e))(c:r=some (f,l,e)):mg g s k r:=.inl ⟨e,x,f,l,he,a,b,c⟩
def mg.yes{g:List Ty}{s:PR}{k:Option (ec×Int)}{r:Option (Fm×List Int×Int)}{f:Fm}{m:Nat}{l:List Int}(a:s=.inl (f,m))(b:k=some (⟨f,(m:Int)⟩,0))(c:r=some (f,l,0))(d:Us l m)(e:kM g f)(h:f.abc<=15000000):mg g s k r:=.inr ⟨f,m,l,a,b,c,d,e,h⟩
def mg.infer{g:List Ty}(hg:g.length<=16){s:PR}{k:Option (ec×Int)}{r:Option (Fm×List Int×Int)}(h:mg g s k r):ZP g (DG s) (Jh k) (Kg r):=by
 rcases h with⟨e,x,f,l,he,rfl,rfl,rfl⟩|⟨f,m,l,rfl,rfl,rfl,hu,b,hn⟩
 ·refine .inl ⟨e,he,rfl,?_,?_⟩
  ·unfold Jh;rw[eb,ee (by rw[eA];exact he)];rfl
  ·unfold Kg;rw[o_,ee (by rw[eA];exact he)];rfl
 ·have c:=b.ok;have hw:=f.jx c;have i:=b.abg 1000000000000 (by omega);have d:DG (.inl (f,m))=if f.err=0 then .inl (f,if f.has=true then m else 0)else .inr 4:=rfl;unfold Jh Kg;rw[eb,o_];simp only[ey];rw[ea (by decide),ea (by decide),ow (by omega),mU (by omega),cl,cl]
  by_cases a:f.err=0
  ·rw[ea (by rw[eA];simp[a]),ea (by rw[eA];simp[a]),DJ (by omega) i,CZ _ (by omega),d,ee a];rw[ea (show¬(f.err≠0) by simpa using a),eb,eb];cases f.has with
   |true=>exact .inr ⟨f,m,l,rfl,rfl,rfl,hu,⟨a,b⟩⟩|false=>exact .inr ⟨f,0,[],rfl,rfl,rfl,.nil,⟨a,b⟩⟩
  ·rw[ee (by rw[eA];exact a),ee (by rw[eA];exact a),d,ea a];exact .inl ⟨4,by decide,rfl,rfl,rfl⟩
def jF(L:List Fm)(P:Pf)(N:Nat):Prop:=∀n n',N<=n->N<=n'->∀p c,PG L p c->ZP c.abe (P.inf L c.abe c.abh) (eZ n L P p) (eK n' c P)
def RU{f:Fm}{m:Nat}{k:Int}(h:f.aba=k):EW (.inl (f,m)) k=.inl (f,m):=by unfold EW;rw[gS,ee h]
def nK{g:List Ty}{s:PR}{n:Nat}{L:List Fm}{P:Pf}{p:eh}{r:Option (rN×Int)}(h:ZP g s (eZ n L P p) r)(k:Int):(∃e,e≠0/\EW s k=.inr e/\fa (n+1) L P p k=some (⟨hW,0⟩,e)/\((r=some (⟨hW,[]⟩,e))\/∃f l m,r=some (⟨f,l⟩,0)/\f.aba≠k/\e=10/\Us l m))\/∃(f:Fm) (m:Nat) (l:List Int),EW s k=.inl (f,m)/\fa (n+1) L P p k=some (⟨f,(m:Int)⟩,0)/\r=some (⟨f,l⟩,0)/\Us l m/\Hg g f/\f.aba=k:=by
 rcases h with⟨e,he,b,c,d⟩|⟨f,m,l,b,c,d,hu,i⟩
 ·refine .inl ⟨e,he,by rw[b];rfl,?_,.inl d⟩;rw[fa,c,eb,ea (by rw[q_,gL,gB];exactλh=>he h.1)]
 ·by_cases a:f.aba=k
  ·refine .inr ⟨f,m,l,by rw[b];unfold EW;rw[gS,ee a],?_,d,hu,i,a⟩;rw[fa,c,eb,ea (by rw[q_,gL,eA];exactλh=>h.2 a)]
  ·refine .inl ⟨10,by decide,by rw[b];unfold EW;rw[gS,ea a],?_,.inr ⟨f,l,m,d,a,rfl,hu⟩⟩;rw[fa,c,eb,ee (by rw[q_,gL,eA,gB];exact⟨rfl,a⟩)];rfl
def Oy{a b:Fm}(e:a.wt<=1000000000)(f:b.wt<=1000000000):lA a b=some (Ey a b)/\oE a b=some (Ey a b):=by
 obtain⟨c,d,g⟩:=A2 e f
 have:Ey a b=c:=by unfold Ey;rw[d];rfl
 rw[this];exact⟨d,g⟩
structure sC (g:List Ty) (F:Fm) (t:Tm):Prop where
 fe:F.err=0
 te:t.err=0
 ty:∃s,kM (g++[s]) F/\fk g t s
def sC.put{g:List Ty}{F:Fm}{t:Tm}(h:sC g F t):kM g (Fm.m7 0 F t):=by
 obtain⟨s,a,b⟩:=h.ty;exact a.put b
def sC.both{g:List Ty}{F:Fm}{t:Tm}(h:sC g F t)(hg:g.length<=100):jd F t=some (ot F t)/\jV F t=some (ot F t):=by
 obtain⟨s,c,d⟩:=h.ty;obtain⟨_,a2⟩:=Fm.hZ h.fe;obtain⟨_,e⟩:=Tm.hZ h.te;have a:F.abg 536870912=true:=c.abg _ (by simp;omega);have b:t.abg 536870912=true:=d.abg _ (by omega);refine⟨HO h.fe h.te (Fm.mZ F (by omega) a) (Tm.mZ t (by omega) b),?_⟩;unfold jV;rw[Ge h.fe h.te a b h.put.ok];rfl
def qo(F:Fm)(t:Tm):ot F t=(hW,4)\/(Fm.m7 0 F t).abc<=4096/\ot F t=(Fm.m7 0 F t,0):=by
 unfold ot
 split
 ·exact .inl rfl
 ·exact .inr ⟨by omega,rfl⟩
def sK{g:List Ty}(hg:g.length<=16){s:PR}{n n':Nat}{L:List Fm}{P:Pf}{p:eh}{c:ej}(h:ZP g s (eZ n L P p) (eK n' c P)){F:Fm}{t:Tm}(q:sC g F t):(∃e x l m,e≠0/\J9 s F t=.inr e/\fh (n+1) L P p F t=some (x,e)/\fw (n'+1) c P F t=some (l,e)/\Us l m)\/∃(f:Fm) (m:Nat) (l:List Int),J9 s F t=.inl (f,m)/\fh (n+1) L P p F t=some (⟨f,(m:Int)⟩,0)/\fw (n'+1) c P F t=some (l,0)/\Us l m:=by
 obtain⟨i,k2⟩:=q.both (by omega);rcases h with⟨e,he,j,k,o⟩|⟨f,m,l,j,k,o,hu,r⟩
 ·refine .inl ⟨e,⟨hW,0⟩,[],0,he,by rw[j];rfl,?_,?_,.nil⟩
  ·rw[fh,k,eb,ee (by rw[eA];exact he)];rfl
  ·rw[fw,o,eb,ee (by rw[eA];exact he)]
 ·rcases qo F t with d|⟨hn,d⟩
  ·rw[d] at i k2;refine .inl ⟨4,⟨hW,0⟩,[],0,by decide,?_,?_,?_,.nil⟩
   ·rw[j];unfold J9;rw[gS,d];rfl
   ·rw[fh,k,eb,ea (by decide),i,eb,ee (by decide)];rfl
   ·rw[fw,o,eb,ea (by decide),k2,eb,ee (by decide)]
  ·rw[d] at i k2;have B:=Fm.jx _ q.put.ok;have C:=Fm.jx _ r.ok;have u:=r.abc;obtain⟨v,w⟩:=Oy (a:=Fm.m7 0 F t) (b:=f) (by omega) (by omega)
   have y:J9 s F t=ma (Ey (Fm.m7 0 F t) f) (.inl (f,m)):=by rw[j];unfold J9;rw[gS,d,iL rfl]
   have z:fh (n+1) L P p F t=some (⟨f,(m:Int)⟩,Ey (Fm.m7 0 F t) f):=by
    rw[fh,k,eb,ea (by decide),i,eb,ea (by decide),v,cl]
   have A:fw (n'+1) c P F t=some (l,Ey (Fm.m7 0 F t) f):=by
    rw[fw,o,eb,ea (by decide),k2,eb,ea (by decide),w,cl]
   rw[y,z,A]
   by_cases hm:Ey (Fm.m7 0 F t) f=0
   ·rw[iL hm,hm];exact .inr ⟨f,m,l,rfl,rfl,rfl,hu⟩
   ·rw[jP hm];exact .inl ⟨_,_,_,m,hm,rfl,rfl,rfl,hu⟩
def E8{g:List Ty}(h:kf g)(hg:g.length<=16):wx g=0:=by
 unfold wx;rw[ea (by omega)]
 induction g with
 |nil=>rfl|cons s g a=>
  have b:=h s (by simp);simp only[zf,hE];rw[ee b];exact a (λx c=>h x (by simp[c])) (by simp at hg;omega)
def sU{g:List Ty}(a:kf g)(hg:g.length<=17){F:Fm}(hF:F.err=0):eX FU (g.map s9) F=some (F.vE g)/\k0 g F=some (F.vE g)/\(g.length<=16->ki g F=some (F.vE g)):=by
 obtain⟨a1,a2⟩:=Fm.hZ hF;have hw:=F.jx a1;refine⟨vY F a1 FU (by rw[fy];omega) g a (by omega) a2,?_,λb=>?_⟩
 ·unfold k0;rw[mU (by omega),hF,cl,ea (by decide),zy F a1 FU (by rw[fy];omega) g a (by omega) a2];rfl
 ·rw[uH (by omega) (by omega) (λt c=>by have:=fD (a t c);omega)];unfold G6;rw[E8 a b,ea (by decide),ea (by simpa using hF)]
def nG{g:List Ty}(a:kf g)(hg:g.length<=16){t:Tm}(b:t.err=0):eY FU (g.map s9) t=some (H6 (t.ty g))/\kE g t=some (t.ty g):=by
 obtain⟨a1,a2⟩:=Tm.hZ b;have hw:=t.jx a1;refine⟨wN a1 a (by omega),?_⟩;unfold kE;rw[sG g (by omega) (λt b=>by have:=fD (a t b);omega),E8 a hg,cl,ea (by decide),yP a1 a2 a (by omega)];rfl
def has_both{g:List Ty}(d:kf g)(hg:g.length<=16){c:ej}(b:c.abe=g){t:Tm}(f:t.err=0)(k:Int):iR (g.map s9) t k=some (pH t g k)/\ij c t k=some (pH t g k):=by
 obtain⟨a1,a2⟩:=Tm.hZ f;refine⟨AA k a1 d (by omega),?_⟩;unfold ij pH;rw[b,(nG d hg f).2];obtain⟨s,e,i⟩:∃s e,t.ty g=(s,e):=⟨_,_,rfl⟩;rw[i,eb]
 by_cases he:e=0
 ·subst he;rw[ea (by decide)]
  by_cases a:s.aba=k
  ·rw[ea (by rw[eA];simpa using a),ea (λh=>h.2 a)]
  ·rw[ee (by rw[eA];exact a),ee ⟨rfl,a⟩]
 ·rw[ee (by rw[eA];exact he),ea (λh=>he h.1)]
def xu{g:List Ty}(hg:g.length<=16){t:Tm}{s:Ty}(h:fk g t s)(b:t.err=0):∃l,kr t=some (wK t:Int)/\kP t=some l/\Us l (wK t):=by
 obtain⟨a1,a2⟩:=Tm.hZ b;have a:∀j:Int,32<=j->t.abi j=0:=λj k=>h.Na j (by omega);obtain⟨l,m,d,e,c,f⟩:=S8 b (h.abg _ (by omega)) a
 have:m=wK t:=by
  refine YB λi=>?_;rw[By,<-c.mem i,f,OY];constructor
  ·rintro⟨_,h⟩;refine⟨?_,h⟩;rcases sA i 32 with hh|hh
   ·exact hh
   ·rw[a i (by omega)] at h;omega
  ·rintro⟨_,h⟩;exact⟨by omega,h⟩
 rw[<-this];exact⟨l,d,e,c⟩
def nz:¬eW 0 0=true:=by decide
def qL(n:Nat)(a0:List Fm)(a1:Pf)(a2:eh):Option (ec×Int):=
 if eH a1.aba 1=true then oZ a0 a1 a2 else(if eH a1.aba 2=true then nN a0 a1 a2 else(if eH a1.aba 3=true then kW n a0 a1 a2 else(if eH a1.aba 4=true then iC n a0 a1 a2 else(if eH a1.aba 5=true then iC n a0 a1 a2 else(if eH a1.aba 6=true then kU n a0 a1 a2 else(if eH a1.aba 7=true then kV n a0 a1 a2 else(if eH a1.aba 8=true then ig n a0 a1 a2 else(if eH a1.aba 12=true then ig n a0 a1 a2 else(if eH a1.aba 9=true then ie n a0 a1 a2 else(if eH a1.aba 13=true then ie n a0 a1 a2 else(if eH a1.aba 10=true then iD n a0 a1 a2 else(if eH a1.aba 14=true then iD n a0 a1 a2 else(if eH a1.aba 11=true then iA n a0 a1 a2 else(if eH a1.aba 15=true then iA n a0 a1 a2 else(if eH a1.aba 16=true then iB n a0 a1 a2 else(if eH a1.aba 17=true then iB n a0 a1 a2 else(if eH a1.aba 18=true then oc a0 a1 a2 else(if eH a1.aba 19=true then kq n a0 a1 a2 else(if eH a1.aba 20=true then jU n a0 a1 a2 else none)))))))))))))))))))
def VH(n:Nat)(L:List Fm)(P:Pf)(p:eh):eZ (n+1) L P p=Jh (qL n L P p):=by rw[eZ];rfl
def VJ(n:Nat)(c:ej)(P:Pf):eK (n+1) c P=Kg (eF n c P):=by rw[eK];rfl
def Pf.AY(L:List Fm)(k i:Int)(s:Ty)(ts:List Tm)(fs:List Fm)(l:List Pf)(g:List Ty)(hs:List Fm):(Pf.mk k i s ts fs l).inf L g hs=DG (ql L k i s ts fs (Pf.ub L l) g hs):=by rw[Pf.inf]
def jF.of{L:List Fm}{k i:Int}{s:Ty}{ts:List Tm}{fs:List Fm}{l:List Pf}{N:Nat}
  (H:∀n n',N<=n->N<=n'->∀p c,PG L p c->mg c.abe (ql L k i s ts fs (Pf.ub L l) c.abe c.abh) (qL (n+4) L (.mk k i s ts fs l) p) (eF (n'+4) c (.mk k i s ts fs l))):jF L (.mk k i s ts fs l) (N+5):=by
 intro n n' hn b p c h;obtain⟨m,rfl⟩:∃m,n=m+5:=⟨n-5,by omega⟩;obtain⟨a,rfl⟩:∃a,n'=a+5:=⟨n'-5,by omega⟩;rw[show m+5=m+4+1 from rfl,show a+5=a+4+1 from rfl,VH,VJ,Pf.AY];exact mg.infer h.pl.nv (H m a (by omega) (by omega) p c h)
def XV(n:Nat)(c:ej)(i:Int):eF (n+1) c (.mk 1 i .z [] [] [])=if(tq i (eM c.abh))=true then some (hW,[],8)else cv (eI c.abh (fB .i64 (fB .i64 (eM c.abh) 1) i)) λa=>some (a,[],0):=by rw[eF];rfl
def XH(L:List Fm)(i:Int)(g:List Ty)(hs:List Fm):ql L 1 i .z [] [] (Pf.ub L []) g hs=wF ((hs.length:Int)<=i) 8 (.inl (hs.getD (hs.length-1-i.toNat) hW,0)):=rfl
def Yz(n:Nat)(L:List Fm)(i:Int)(p:eh):qL n L (.mk 1 i .z [] [] []) p=ei (k_ p i) λa b=>if b=true then some (⟨a,0⟩,0)else some (⟨hW,0⟩,8):=rfl
def RP{L:List Fm}{i:Int}(hi:0<=i):jF L (.mk 1 i .z [] [] []) 5:=by
 refine jF.of (N:=0) λn n' _ _ p c h=>?_;rw[XV,XH,Yz];have g:=h.pl.M4 hi
 by_cases d:(c.abh.length:Int)<=i
 ·rw[ee d] at g;rw[k5 d,g,eb,ea (by decide),ee (show tq i (eM c.abh)=true by rw[jk,fO];exact d)];exact mg.no (by decide) rfl rfl rfl
 ·rw[ea d] at g;obtain⟨f,e,k⟩:=g;rw[lq d,k,eb,ee rfl,ea (show¬(tq i (eM c.abh)=true) by rw[jk,fO];exact d),e,cl];have l:=h.pl.nh;rw[fO,fG (a:=(c.abh.length:Int)) (by omega) (by omega),fG (by omega) (by omega)] at e
  have b:c.abh.length-1-i.toNat<c.abh.length:=by omega
  rw[show(c.abh.length:Int)-1-i=((c.abh.length-1-i.toNat:Nat):Int) by omega,jJ,pW b] at e
  have m:c.abh.getD (c.abh.length-1-i.toNat) hW=f:=by
   rw[Q7,pW b];exact iw e
  have j:=h.abh f (by rw[<-iw e];exact Ga b);exact mg.yes (by rw[m]) rfl rfl .nil j.ty (by have:=j.abc;omega)
def YX(n:Nat)(c:ej)(i:Int):eF (n+1) c (.mk 2 i .z [] [] [])=if(tq i (eM c.lemmas))=true then some (hW,[],9)else cv (eI c.lemmas i) λa=>some (a,[],0):=by rw[eF];rfl
def Zj(L:List Fm)(i:Int)(g:List Ty)(hs:List Fm):ql L 2 i .z [] [] (Pf.ub L []) g hs=wF ((L.length:Int)<=i) 9 (.inl (L.getD i.toNat hW,0)):=rfl
def X7(n:Nat)(L:List Fm)(i:Int)(p:eh):qL n L (.mk 2 i .z [] [] []) p=if(tq i (eM L))=true then some (⟨hW,0⟩,9)else cv (eI L i) λa=>some (⟨a,0⟩,0):=rfl
def Rv{L:List Fm}{i:Int}(hi:0<=i):jF L (.mk 2 i .z [] [] []) 5:=by
 refine jF.of (N:=0) λn n' _ _ p c h=>?_;rw[YX,Zj,X7,h.NF]
 by_cases b:(L.length:Int)<=i
 ·rw[k5 b,ee (by rw[jk,fO];exact b),ee (by rw[jk,fO];exact b)];exact mg.no (by decide) rfl rfl rfl
 ·obtain⟨k,rfl⟩:∃k:Nat,i=k:=⟨i.toNat,by omega⟩
  have a:k<L.length:=by omega
  rw[lq b,ea (by rw[jk,fO];exact b),ea (by rw[jk,fO];exact b),jJ,pW a,cl,cl]
  have e:L.getD (k:Int).toNat hW=L[k]:=by rw[As,Q7,pW a];rfl
  have d:=h.WQ _ (Ga a);exact mg.yes (by rw[e]) rfl rfl .nil (by simpa using d.ty.front c.abe) (by have:=d.abc;omega)
def Vn(n:Nat)(c:ej)(a b:Pf):eF (n+1) c (.mk 3 0 .z [] [] [a,b])=ei (eK n c a) λd e=>if(eW e 0)=true then some (hW,[],e)else ei (eK n c b) λf g=>cv (oq 2 d.eg f.eg) λh=>cv (gK d.gp f.gp) λi=>some (h,i,g):=by rw[eF];rfl
def Ws(L:List Fm)(a b:Pf)(g:List Ty)(hs:List Fm):ql L 3 0 .z [] [] (Pf.ub L [a,b]) g hs=pbind (a.inf L g hs) λf m=>pbind (b.inf L g hs) λc n=>.inl (.mk 2 .z [] [f,c],m|||n):=rfl
def WL(n:Nat)(L:List Fm)(a b:Pf)(p:eh):qL (n+1) L (.mk 3 0 .z [] [] [a,b]) p=ei (eZ n L a p) λc d=>if(eW d 0)=true then some (⟨hW,0⟩,d)else ei (eZ n L b p) λe f=>if(eW f 0)=true then some (⟨hW,0⟩,f)else some (⟨.mk 2 .z [] [c.eg,e.eg],xm .u32 c.gp e.gp⟩,0):=by
 show kW (n+1) L (.mk 3 0 .z [] [] [a,b]) p=_;rw[kW];rfl
def MR:hW.wt<=1000000:=by decide
def Pw{L:List Fm}{a b:Pf}{N:Nat}(t:jF L a N)(u:jF L b N):jF L (.mk 3 0 .z [] [] [a,b]) (N+5):=by
 refine jF.of λn n' hn v p c h=>?_;rw[Vn,Ws,WL];rcases t (n+3) (n'+3) (by omega) (by omega) p c h with⟨e,he,d,g,i⟩|⟨f,m,l,d,g,i,hu,o⟩
 ·rw[d,g,i,eb,eb,ee (by rw[eA];exact he),ee (by rw[eA];exact he)];exact mg.no he rfl rfl rfl
 ·have w:=o.abc;have x:=f.jx o.ok;rw[d,g,i,eb,eb,ea (by decide),ea (by decide),gS];rcases u (n+3) (n'+3) (by omega) (by omega) p c h with⟨e,he,d,g,i⟩|⟨y,C,D,d,g,i,k,j⟩
  ·obtain⟨q,q1,_⟩:=hu.union .nil (by have:=hu.len;omega) (by simp);have:=MR;rw[d,g,i,eb,eb,ee (by rw[eA];exact he)];simp only[];rw[FW (by omega) (by omega),cl,q1];exact mg.no he rfl rfl rfl
  ·have r:=j.abc;have s:=y.jx j.ok;obtain⟨q,q1,A,B,_⟩:=hu.union k (by have:=hu.len;omega) (by have:=k.len;omega);rw[d,g,i,eb,eb,ea (by decide),gS];simp only[];rw[FW (by omega) (by omega),cl,q1,A];refine mg.yes rfl rfl rfl B (.two (.inl rfl) o.ty j.ty) ?_;rw[Fm.ef];simp only[eC];omega
def kM.Qa{g:List Ty}{f:Fm}(h:kM g f){k:Int}(c:f.aba=k)(j:k=2\/k=3):∃a b,f=.mk k .z [] [a,b]/\kM g a/\kM g b:=by
 cases h with
 |eq _ _=>simp only[Fm.eN] at c;omega
 |two d e i=>simp only[Fm.eN] at c;subst c;exact⟨_,_,rfl,e,i⟩
 |q d _ _=>simp only[Fm.eN] at c;omega
def kM.DL{g:List Ty}{f:Fm}(h:kM g f){k:Int}(b:f.aba=k)(e:k=4\/k=5\/k=6\/k=7):∃s a,f=.mk k s [] [a]/\s.err=0/\kM (g++[s]) a:=by
 cases h with
 |eq _ _=>simp only[Fm.eN] at b;omega
 |two c d i=>simp only[Fm.eN] at b;omega
 |q c hs d=>simp only[Fm.eN] at b;subst b;exact⟨_,_,rfl,hs,d⟩
def kM.Zn{g:List Ty}{f:Fm}(h:kM g f)(e:f.aba=1):∃a b,f=.mk 1 .z [a,b] []/\fk g a .nat/\fk g b .nat:=by
 cases h with
 |eq c i=>exact⟨_,_,rfl,c,i⟩|two d c i=>simp only[Fm.eN] at e;omega
 |q d hs c=>simp only[Fm.eN] at e;omega
def Hg.sub{g a:List Ty}{k:Int}{s:Ty}{ts:List Tm}{l:List Fm}(h:Hg g (.mk k s ts l)){x:Fm}(c:x∈l)(b:kM a x):Hg a x:=by
 have d:=h.abc;rw[Fm.ef] at d;have:=eL Fm.abc c;refine⟨?_,b⟩;unfold Fm.err;rw[ee b.ok,ea (by omega)]
def U5(n:Nat)(c:ej)(a:Pf):eF (n+1) c (.mk 4 0 .z [] [] [a])=ei (eK n c a) λb d=>if(eW d 0)=true then some (hW,[],d)else if(eW b.eg.aba 2)=true then some (hW,[],10)else cv (eI b.eg.abb (fB .i64 4 4)) λe=>some (e,b.gp,0):=by rw[eF];rfl
def Vz(n:Nat)(c:ej)(a:Pf):eF (n+1) c (.mk 5 0 .z [] [] [a])=ei (eK n c a) λb d=>if(eW d 0)=true then some (hW,[],d)else if(eW b.eg.aba 2)=true then some (hW,[],10)else cv (eI b.eg.abb (fB .i64 5 4)) λe=>some (e,b.gp,0):=by rw[eF];rfl
def UO(L:List Fm)(a:Pf)(g:List Ty)(hs:List Fm):ql L 4 0 .z [] [] (Pf.ub L [a]) g hs=pbind (EW (a.inf L g hs) 2) λf m=>.inl (f.abb.getD 0 hW,m):=rfl
def UX(L:List Fm)(a:Pf)(g:List Ty)(hs:List Fm):ql L 5 0 .z [] [] (Pf.ub L [a]) g hs=pbind (EW (a.inf L g hs) 2) λf m=>.inl (f.abb.getD 1 hW,m):=rfl
def WS(n:Nat)(L:List Fm)(a:Pf)(p:eh):qL (n+1) L (.mk 4 0 .z [] [] [a]) p=ei (fa n L a p 2) λb c=>if(eW c 0)=true then some (⟨hW,0⟩,c)else cv (eI b.eg.abb 0) λd=>some (⟨d,b.gp⟩,0):=by
 show iC (n+1) L (.mk 4 0 .z [] [] [a]) p=_;rw[iC];rfl
def UP(n:Nat)(L:List Fm)(a:Pf)(p:eh):qL (n+1) L (.mk 5 0 .z [] [] [a]) p=ei (fa n L a p 2) λb c=>if(eW c 0)=true then some (⟨hW,0⟩,c)else cv (eI b.eg.abb 1) λd=>some (⟨d,b.gp⟩,0):=by
 show iC (n+1) L (.mk 5 0 .z [] [] [a]) p=_;rw[iC];rfl
def OJ{L:List Fm}{a:Pf}{N:Nat}(o:jF L a N):jF L (.mk 4 0 .z [] [] [a]) (N+5):=by
 refine jF.of λn n' hn q p c h=>?_;rw[U5,UO,WS];rcases nK (o (n+2) (n'+3) (by omega) (by omega) p c h) 2 with⟨e,he,d,g,b⟩|⟨f,m,l,d,g,b,hu,j,i⟩
 ·rw[d,g,eb,ee (by rw[eA];exact he)];rcases b with b|⟨f,l,m,b,i,rfl,_⟩
  ·rw[b,eb,ee (by rw[eA];exact he)];exact mg.no he rfl rfl rfl
  ·rw[b,eb,ea (by decide),ee (by rw[eA];exact i)];exact mg.no he rfl rfl rfl
 ·obtain⟨x,y,rfl,k,hy⟩:=j.ty.Qa i (.inl rfl);rw[d,g,b,eb,eb,ea (by decide),ea (by decide),ea (by simp),gS];exact mg.yes (f:=x) rfl rfl rfl hu k (by have:=(j.sub (by simp) k).abc;omega)
def OU{L:List Fm}{a:Pf}{N:Nat}(k:jF L a N):jF L (.mk 5 0 .z [] [] [a]) (N+5):=by
 refine jF.of λn n' hn o p c h=>?_;rw[Vz,UX,UP];rcases nK (k (n+2) (n'+3) (by omega) (by omega) p c h) 2 with⟨e,he,d,g,b⟩|⟨f,m,l,d,g,b,hu,j,i⟩
 ·rw[d,g,eb,ee (by rw[eA];exact he)];rcases b with b|⟨f,l,m,b,i,rfl,_⟩
  ·rw[b,eb,ee (by rw[eA];exact he)];exact mg.no he rfl rfl rfl
  ·rw[b,eb,ea (by decide),ee (by rw[eA];exact i)];exact mg.no he rfl rfl rfl
 ·obtain⟨x,y,rfl,q,hy⟩:=j.ty.Qa i (.inl rfl);rw[d,g,b,eb,eb,ea (by decide),ea (by decide),ea (by simp),gS];exact mg.yes (f:=y) rfl rfl rfl hu hy (by have:=(j.sub (by simp) hy).abc;omega)
def Vc(n:Nat)(c:ej)(F:Fm)(a:Pf):eF (n+1) c (.mk 6 0 .z [] [F] [a])=cv (ki c.abe F) λb=>if(eW b 0)=true then some (hW,[],b)else cv (eT c 0 1) λd=>if(eW d 0)=true then some (hW,[],d)else cv (gE c F) λf=>ei (eK n f a) λe g=>cv (oq 3 F e.eg) λh=>some (h,e.gp,g):=by rw[eF];rfl
def WY(L:List Fm)(F:Fm)(a:Pf)(g:List Ty)(hs:List Fm):ql L 6 0 .z [] [F] (Pf.ub L [a]) g hs=ma (F.vE g) (wF (16<hs.length+1) 3 (pbind (a.inf L g (hs++[F])) λb m=>.inl (.mk 3 .z [] [F,b],m))):=rfl
def Vv(n:Nat)(L:List Fm)(F:Fm)(a:Pf)(p:eh):qL (n+1) L (.mk 6 0 .z [] [F] [a]) p=cv (eX FU p.abe F) λb=>if(eW b 0)=true then some (⟨hW,0⟩,b)else cv (eV p.gk 0 1) λc=>if(eW c 0)=true then some (⟨hW,0⟩,c)else cv (gi p F) λf=>ei (eZ n L a f) λd e=>if(eW e 0)=true then some (⟨hW,0⟩,e)else some (⟨.mk 3 .z [] [F,d.eg],d.gp⟩,0):=by
 show kU (n+1) L (.mk 6 0 .z [] [F] [a]) p=_;rw[kU];rfl
def PQ{L:List Fm}{F:Fm}(hF:F.err=0){a:Pf}{N:Nat}(u:jF L a N):jF L (.mk 6 0 .z [] [F] [a]) (N+5):=by
 refine jF.of λn n' hn w p c h=>?_;rw[Vc,WY,Vv];have j:=h.pl.nv;obtain⟨t1,_,t2⟩:=sU h.pl.ctx (by omega) hF;have x:=(Fm.hZ hF).2;have y:=F.jx (Fm.hZ hF).1;rw[h.pl.abe,t1,t2 j,cl,cl]
 by_cases b:F.vE c.abe=0
 ·rw[ea (by rw[eA];simpa using b),ea (by rw[eA];simpa using b),iL b];have i:=sJ F (Fm.hZ hF).1 c.abe h.pl.ctx b;rcases h.room (v:=0) (k:=1) (by omega) (by omega)with⟨d,g,_,t⟩|⟨d,g,t⟩
  ·have d:eV p.gk 0 1=some 0:=d;have g:eT c 0 1=some 0:=g;rw[d,g,cl,cl,ea (by decide),ea (by decide),lq (by omega)];obtain⟨A,B,C,D,E,G,H⟩:=h.with ⟨hF,i⟩ t;rw[C,D,cl,cl];have hi:=u (n+3) (n'+3) (by omega) (by omega) A B E;rw[G,H] at hi;rcases hi with⟨e,he,o,q,r⟩|⟨f,m,l,o,q,r,hu,s⟩
   ·have:=MR;rw[o,q,r,eb,eb,ee (by rw[eA];exact he)];simp only[];rw[FW (by omega) (by omega)];exact mg.no he rfl rfl rfl
   ·have I:=s.abc;have J:=f.jx s.ok;rw[o,q,r,eb,eb,ea (by decide)];simp only[];rw[FW (by omega) (by omega)];refine mg.yes rfl rfl rfl hu (.two (.inr rfl) i s.ty) ?_;rw[Fm.ef];simp only[eC];omega
  ·have d:eV p.gk 0 1=some 3:=d;have g:eT c 0 1=some 3:=g;rw[d,g,cl,cl,ee (by decide),ee (by decide),k5 (by omega)];exact mg.no (by decide) rfl rfl rfl
 ·rw[ee (by rw[eA];exact b),ee (by rw[eA];exact b),jP b];exact mg.no b rfl rfl rfl
def Vp(n:Nat)(c:ej)(a b:Pf):eF (n+1) c (.mk 7 0 .z [] [] [a,b])=ei (eK n c a) λd e=>if(eW e 0)=true then some (hW,[],e)else if(eW d.eg.aba 3)=true then some (hW,[],10)else ei (eK n c b) λf g=>if(eW g 0)=true then some (hW,[],g)else cv (eI d.eg.abb 1) λh=>cv (gK d.gp f.gp) λi=>cv (eI d.eg.abb 0) λj=>cv (oE j f.eg) λk=>some (h,i,k):=by rw[eF];rfl
def WK(L:List Fm)(a b:Pf)(g:List Ty)(hs:List Fm):ql L 7 0 .z [] [] (Pf.ub L [a,b]) g hs=pbind (EW (a.inf L g hs) 3) λa m=>pbind (b.inf L g hs) λb n=>ma (Ey (a.abb.getD 0 hW) b) (.inl (a.abb.getD 1 hW,m|||n)):=rfl
def Vj(n:Nat)(L:List Fm)(a b:Pf)(p:eh):qL (n+1) L (.mk 7 0 .z [] [] [a,b]) p=ei (fa n L a p 3) λc d=>if(eW d 0)=true then some (⟨hW,0⟩,d)else ei (eZ n L b p) λe f=>if(eW f 0)=true then some (⟨hW,0⟩,f)else cv (eI c.eg.abb 0) λh=>cv (lA h e.eg) λg=>if(eW g 0)=true then some (⟨hW,0⟩,g)else cv (eI c.eg.abb 1) λi=>some (⟨i,xm .u32 c.gp e.gp⟩,0):=by
 show kV (n+1) L (.mk 7 0 .z [] [] [a,b]) p=_;rw[kV];rfl
def OZ{L:List Fm}{a b:Pf}{N:Nat}(B:jF L a N)(C:jF L b N):jF L (.mk 7 0 .z [] [] [a,b]) (N+5):=by
 refine jF.of λn n' hn D p c h=>?_;rw[Vp,WK,Vj];rcases nK (B (n+2) (n'+3) (by omega) (by omega) p c h) 3 with⟨e,he,g,i,d⟩|⟨f,m,l,g,i,d,hu,o,r⟩
 ·rw[g,i,eb,ee (by rw[eA];exact he)];rcases d with d|⟨f,l,m,d,r,rfl,_⟩
  ·rw[d,eb,ee (by rw[eA];exact he)];exact mg.no he rfl rfl rfl
  ·rw[d,eb,ea (by decide),ee (by rw[eA];exact r)];exact mg.no he rfl rfl rfl
 ·obtain⟨x,y,rfl,v,hy⟩:=o.ty.Qa r (.inr rfl);have s:=o.sub (x:=x) (by simp) v;have t:=o.sub (x:=y) (by simp) hy;have E:=x.jx v.ok;have F:=s.abc;rw[g,i,d,eb,eb,ea (by decide),ea (by decide),ea (by simp),gS];rcases C (n+3) (n'+3) (by omega) (by omega) p c h with⟨e,he,g,i,d⟩|⟨u,K,M,g,i,d,j,k⟩
  ·rw[g,i,d,eb,eb,ee (by rw[eA];exact he),ee (by rw[eA];exact he)];exact mg.no he rfl rfl rfl
  ·have w:=k.abc;have A:=u.jx k.ok;obtain⟨q,q1,G,H,_⟩:=hu.union j (by have:=hu.len;omega) (by have:=j.len;omega);obtain⟨I,J⟩:=Oy (a:=x) (b:=u) (by omega) (by omega);rw[g,i,d,eb,eb,ea (by decide),ea (by decide),gS];simp only[Fm.eG,eU,gx,js,m4,cl,yv,My];rw[q1,G,I,J,cl,cl,cl]
   by_cases hm:Ey x u=0
   ·rw[iL hm,hm,ea (by decide)];exact mg.yes rfl rfl rfl H hy (by have:=t.abc;omega)
   ·rw[jP hm,ee (by rw[eA];exact hm)];exact mg.no hm rfl rfl rfl
def Us.has{l:List Int}{m:Nat}(h:Us l m):qE l=some (m.testBit 0)/\eW (qA .u32 (m:Int) 1) 0=m.testBit 0:=by
 have hm:=h.mem 0;constructor
 ·unfold qE;simp only[ey];cases l with
  |nil=>
   rw[ea (by simp)];cases b:m.testBit 0 with
   |false=>rfl|true=>rw[b] at hm;simp at hm
  |cons a l=>
   rw[ee (by simp)];simp only[eU,js,cl]
   congr 1
   rw[By,gB,<-hm];constructor
   ·rintro rfl;simp
   ·intro hh;rcases lF.1 hh with hh|hh
    ·exact hh.symm
    ·cases h.UH with
     |cons s1 _=>
      have:=s1 0 (by simpa using hh);have:=h.pos a (by simp);omega
 ·rw[show(1:Int)=((1:Nat):Int)from rfl,L5 h.lt (by omega)];rw[By,eA,Nat.testBit_zero,Nat.and_one_is_mod];simp only[ni];omega
def VU(n:Nat)(c:ej)(s:Ty)(a:Pf):eF (n+2) c (.mk 8 0 s [] [] [a])=iG (cv (eT c 1 0) λk=>if(eW k 0)=true then some (hW,[],k)else cv (fK c [s]) λh=>ei (eK n h a) λf g=>if(eW g 0)=true then some (hW,[],g)else cv (j3 4 s f.eg) λi=>cv (gQ f.gp 1) λj=>some (i,j,0)) λb d e=>some (b,d,e):=by
 rw[eF];show iG (kB (n+1) c (.mk 8 0 s [] [] [a])) (λb d e=>some (b,d,e))=_;rw[kB];rfl
def SL(n:Nat)(c:ej)(s:Ty)(a:Pf):eF (n+2) c (.mk 12 0 s [] [] [a])=iG (cv (eT c 1 0) λl=>if(eW l 0)=true then some (hW,[],l)else cv (fK c [s]) λh=>ei (eK n h a) λf g=>if(eW g 0)=true then some (hW,[],g)else cv (qE f.gp) λi=>if i=true then some (hW,[],12)else cv (j3 6 s f.eg) λj=>cv (gQ f.gp 1) λk=>some (j,k,0)) λb d e=>some (b,d,e):=by
 rw[eF];show iG (kB (n+1) c (.mk 12 0 s [] [] [a])) (λb d e=>some (b,d,e))=_;rw[kB];rfl
def MC(L:List Fm)(s:Ty)(a:Pf)(g:List Ty)(hs:List Fm):ql L 8 0 s [] [] (Pf.ub L [a]) g hs=wF (16<g.length+1) 3 (pbind (a.inf L (g++[s]) (hs.map (Fm.up 0 1))) λb m=>.inl (.mk 4 s [] [b],m/2)):=rfl
def OA(L:List Fm)(s:Ty)(a:Pf)(g:List Ty)(hs:List Fm):ql L 12 0 s [] [] (Pf.ub L [a]) g hs=wF (16<g.length+1) 3 (pbind (a.inf L (g++[s]) (hs.map (Fm.up 0 1))) λb m=>wF (m.testBit 0=true) 12 (.inl (.mk 6 s [] [b],m/2))):=rfl
def V5(n:Nat)(L:List Fm)(s:Ty)(a:Pf)(p:eh):qL (n+1) L (.mk 8 0 s [] [] [a]) p=cv (eV p.gk 1 0) λf=>if(eW f 0)=true then some (⟨hW,0⟩,f)else cv (fZ p [s]) λd=>ei (eZ n L a d) λb c=>if(eW c 0)=true then some (⟨hW,0⟩,c)else cv (fJ b.gp 1) λe=>some (⟨.mk 4 s [] [b.eg],e⟩,0):=by
 show ig (n+1) L (.mk 8 0 s [] [] [a]) p=_;rw[ig];rfl
def SY(n:Nat)(L:List Fm)(s:Ty)(a:Pf)(p:eh):qL (n+1) L (.mk 12 0 s [] [] [a]) p=cv (eV p.gk 1 0) λf=>if(eW f 0)=true then some (⟨hW,0⟩,f)else cv (fZ p [s]) λd=>ei (eZ n L a d) λb c=>if(eW c 0)=true then some (⟨hW,0⟩,c)else if(eW (qA .u32 b.gp 1) 0)=true then some (⟨hW,0⟩,12)else cv (fJ b.gp 1) λe=>some (⟨.mk 6 s [] [b.eg],e⟩,0):=by
 show ig (n+1) L (.mk 12 0 s [] [] [a]) p=_;rw[ig];rfl
def OE{L:List Fm}{s:Ty}(hs:s.err=0){a:Pf}{N:Nat}(t:jF L a N):jF L (.mk 8 0 s [] [] [a]) (N+5):=by
 refine jF.of λn n' hn u p c h=>?_;rw[show n'+4=n'+2+2 from rfl,VU,MC,V5];rcases h.room (v:=1) (k:=0) (by omega) (by omega)with⟨b,d,r,_⟩|⟨b,d,r⟩
 ·have b:eV p.gk 1 0=some 0:=b;have d:eT c 1 0=some 0:=d;rw[b,d,cl,cl,ea nz,ea nz,lq (by omega)];obtain⟨w,x,y,z,A,B,C⟩:=h.below hs r;rw[y,z,cl,cl];have hi:=t (n+3) (n'+2) (by omega) (by omega) w x A;rw[B,C] at hi;rcases hi with⟨e,he,g,i,j⟩|⟨f,m,l,g,i,j,hu,o⟩
  ·rw[g,i,j,eb,eb,ee (by rw[eA];exact he),ee (by rw[eA];exact he)];exact mg.no he rfl rfl rfl
  ·have D:=o.abc;have E:=f.jx o.ok;have F:=fD hs;obtain⟨G,H,I⟩:=hu.out (by have:=hu.len;omega) (k:=1) (by omega);rw[g,i,j,eb,eb,ea nz,ea nz,gS];simp only[];rw[Dx (by omega) (by omega),cl,show(1:Int)=((1:Nat):Int)from rfl,G,H];refine mg.yes rfl rfl rfl I (.q (.inl rfl) hs o.ty) ?_;rw[Fm.ef];simp only[eC];omega
 ·have b:eV p.gk 1 0=some 3:=b;have d:eT c 1 0=some 3:=d;have J:=h.pl.nh;rw[b,d,cl,cl,ee (by decide),ee (by decide),k5 (by omega)];exact mg.no (by decide) rfl rfl rfl
def NH{L:List Fm}{s:Ty}(hs:s.err=0){a:Pf}{N:Nat}(u:jF L a N):jF L (.mk 12 0 s [] [] [a]) (N+5):=by
 refine jF.of λn n' hn w p c h=>?_;rw[show n'+4=n'+2+2 from rfl,SL,OA,SY];rcases h.room (v:=1) (k:=0) (by omega) (by omega)with⟨b,d,t,_⟩|⟨b,d,t⟩
 ·have b:eV p.gk 1 0=some 0:=b;have d:eT c 1 0=some 0:=d;rw[b,d,cl,cl,ea nz,ea nz,lq (by omega)];obtain⟨x,y,z,A,B,C,D⟩:=h.below hs t;rw[z,A,cl,cl];have hi:=u (n+3) (n'+2) (by omega) (by omega) x y B;rw[C,D] at hi;rcases hi with⟨e,he,i,j,o⟩|⟨f,m,l,i,j,o,hu,r⟩
  ·rw[i,j,o,eb,eb,ee (by rw[eA];exact he),ee (by rw[eA];exact he)];exact mg.no he rfl rfl rfl
  ·have E:=r.abc;have F:=f.jx r.ok;have G:=fD hs;obtain⟨H,I,J⟩:=hu.out (by have:=hu.len;omega) (k:=1) (by omega);obtain⟨K,M⟩:=hu.has;rw[i,j,o,eb,eb,ea nz,ea nz,gS];simp only[];rw[K,M,cl]
   by_cases g:m.testBit 0=true
   ·rw[k5 g,ee g,ee g];exact mg.no (by decide) rfl rfl rfl
   ·rw[lq g,ea g,ea g,Dx (by omega) (by omega),cl,show(1:Int)=((1:Nat):Int)from rfl,H,I];refine mg.yes rfl rfl rfl J (.q (.inr (.inr (.inl rfl))) hs r.ty) ?_;rw[Fm.ef];simp only[eC];omega
 ·have b:eV p.gk 1 0=some 3:=b;have d:eT c 1 0=some 3:=d;have O:=h.pl.nh;rw[b,d,cl,cl,ee (by decide),ee (by decide),k5 (by omega)];exact mg.no (by decide) rfl rfl rfl
def Nd(a b:Ty):a.nx b=b.nx a:=by
 rw[By,Ty.lX,Ty.lX];exact⟨Eq.symm,Eq.symm⟩
def pV{a b:Ty}(d:a.err=0)(c:b.err=0):ir (s9 a) b=some (a.nx b)/\fP FU b a=some (a.nx b):=by
 have e:=fD d;have f:=fD c;constructor
 ·unfold ir;rw[lC c,cl,sa (by omega)];rfl
 ·rw[jb (by omega),Nd]
def YP(n:Nat)(c:ej)(t:Tm)(a:Pf):eF (n+2) c (.mk 9 0 .z [t] [] [a])=iG (ei (kE c.abe t) λp o=>if(eW o 0)=true then some (hW,[],o)else ei (eK n c a) λf g=>if(eW g 0)=true then some (hW,[],g)else cv (kP t) λh=>cv (gK f.gp h) λi=>if(eW f.eg.aba 4)=true then some (hW,[],10)else cv (fP FU f.eg.dv p) λj=>if j=true then cv (eI f.eg.abb 0) λk=>ei (jV k t) λl m=>some (l,i,m)else some (hW,[],7)) λb d e=>some (b,d,e):=by
 rw[eF];show iG (k7 (n+1) c (.mk 9 0 .z [t] [] [a])) (λb d e=>some (b,d,e))=_;rw[k7];rfl
def UR(n:Nat)(c:ej)(t:Tm)(a:Pf):eF (n+2) c (.mk 13 0 .z [t] [] [a])=iG (ei (kE c.abe t) λo m=>if(eW m 0)=true then some (hW,[],m)else ei (eK n c a) λb g=>if(eW g 0)=true then some (hW,[],g)else cv (kP t) λh=>cv (gK b.gp h) λp=>if(eW b.eg.aba 6)=true then some (hW,[],10)else cv (fP FU b.eg.dv o) λi=>if i=true then cv (eI b.eg.abb 0) λj=>ei (jV j t) λk l=>some (k,b.gp,l)else some (hW,[],7)) λd e f=>some (d,e,f):=by
 rw[eF];show iG (k7 (n+1) c (.mk 13 0 .z [t] [] [a])) (λd e f=>some (d,e,f))=_;rw[k7];rfl
def Ub(L:List Fm)(t:Tm)(a:Pf)(g:List Ty)(hs:List Fm):ql L 9 0 .z [t] [] (Pf.ub L [a]) g hs=ma (t.ty g).2 (pbind (EW (a.inf L g hs) 4) λa m=>wF ((t.ty g).1.nx a.dv=false) 7 (ma (ot (a.abb.getD 0 hW) t).2 (.inl ((ot (a.abb.getD 0 hW) t).1,m|||wK t)))):=rfl
def Qu(L:List Fm)(t:Tm)(a:Pf)(g:List Ty)(hs:List Fm):ql L 13 0 .z [t] [] (Pf.ub L [a]) g hs=ma (t.ty g).2 (pbind (EW (a.inf L g hs) 6) λa m=>wF ((t.ty g).1.nx a.dv=false) 7 (ma (ot (a.abb.getD 0 hW) t).2 (.inl ((ot (a.abb.getD 0 hW) t).1,m)))):=rfl
def Y5(n:Nat)(L:List Fm)(t:Tm)(a:Pf)(p:eh):qL (n+1) L (.mk 9 0 .z [t] [] [a]) p=ei (eY FU p.abe t) λj i=>if(eW i 0)=true then some (⟨hW,0⟩,i)else cv (kr t) λd=>ei (fa n L a p 4) λb c=>if(eW c 0)=true then some (⟨hW,0⟩,c)else cv (ir j b.eg.dv) λe=>if e=true then cv (eI b.eg.abb 0) λf=>ei (jd f t) λg h=>some (⟨g,xm .u32 b.gp d⟩,h)else some (⟨hW,0⟩,7):=by
 show ie (n+1) L (.mk 9 0 .z [t] [] [a]) p=_;rw[ie];rfl
def U1(n:Nat)(L:List Fm)(t:Tm)(a:Pf)(p:eh):qL (n+1) L (.mk 13 0 .z [t] [] [a]) p=ei (eY FU p.abe t) λi h=>if(eW h 0)=true then some (⟨hW,0⟩,h)else cv (kr t) λj=>ei (fa n L a p 6) λb c=>if(eW c 0)=true then some (⟨hW,0⟩,c)else cv (ir i b.eg.dv) λd=>if d=true then cv (eI b.eg.abb 0) λe=>ei (jd e t) λf g=>some (⟨f,xm .u32 b.gp 0⟩,g)else some (⟨hW,0⟩,7):=by
 show ie (n+1) L (.mk 13 0 .z [t] [] [a]) p=_;rw[ie];rfl
def KD{m:Nat}(h:m<4294967296):xm .u32 (m:Int) 0=(m:Int):=by
 rw[show(0:Int)=((0:Nat):Int)from rfl,Kb h (by omega),Nat.or_zero]
def yX{t:Tm}(b:t.err=0){g:List Ty}(c:kf g):(∃e,e≠0/\(t.ty g).2=e/\∃z,t.ty g=(z,e))\/∃s,t.ty g=(s,0)/\fk g t s/\s.err=0:=by
 obtain⟨s,e,a⟩:∃s e,t.ty g=(s,e):=⟨_,_,rfl⟩
 by_cases he:e=0
 ·subst he;obtain⟨d,f⟩:=q7 _ t (jh _) (Tm.hZ b).1 g c s a;exact .inr ⟨s,a,d,f⟩
 ·exact .inl ⟨e,he,by rw[a],s,a⟩
def RT{L:List Fm}{t:Tm}(d:t.err=0){a:Pf}{N:Nat}(E:jF L a N):jF L (.mk 9 0 .z [t] [] [a]) (N+5):=by
 refine jF.of λn n' hn F p c h=>?_;have g:=h.pl.nv;rw[show n'+4=n'+2+2 from rfl,YP,Ub,Y5,h.pl.abe,(nG h.pl.ctx g d).1,(nG h.pl.ctx g d).2];rcases yX d h.pl.ctx with⟨e,he,q1,z,G⟩|⟨s,q1,j,hs⟩
 ·rw[G,me he,eb,eb,ee (by rw[eA];exact he),ee (by rw[eA];exact he),jP he];exact mg.no he rfl rfl rfl
 ·obtain⟨K,f1,f2,f3⟩:=xu g j d;rw[q1,p4,eb,eb,ea nz,ea nz,iL rfl,f1,cl];rcases nK (E (n+2) (n'+2) (by omega) (by omega) p c h) 4 with⟨e,he,o,r,i⟩|⟨f,m,l,o,r,i,hu,B,u⟩
  ·rw[o,r,eb,ee (by rw[eA];exact he)];rcases i with i|⟨f,l,m,i,u,rfl,hu⟩
   ·rw[i,eb,ee (by rw[eA];exact he)];exact mg.no he rfl rfl rfl
   ·obtain⟨q,v,_⟩:=hu.union f3 (by have:=hu.len;omega) (by have:=f3.len;omega);rw[i,eb,ea nz,f2,cl,v,cl,ee (by rw[eA];exact u)];exact mg.no he rfl rfl rfl
  ·obtain⟨C,x,rfl,k,D⟩:=B.ty.DL u (.inl rfl);have w:=B.sub (x:=x) (by simp) D;obtain⟨q,v,H,I,_⟩:=hu.union f3 (by have:=hu.len;omega) (by have:=f3.len;omega);rw[o,r,i,eb,eb,ea nz,ea nz,f2,cl,gS];simp only[Fm.eN,Fm.fv,Fm.eG,eU,js,cl,yv];rw[v,H,cl,ea (show¬eW 4 4=true by decide),(pV hs k).1,(pV hs k).2,cl,cl]
   by_cases b:s.nx C=true
   ·have:=(Ty.lX s C).1 b;subst this;have y:sC c.abe x t:=⟨w.err,d,s,D,j⟩;rw[lq (by rw[b];decide),ee b,ee b,(y.both (by omega)).1,(y.both (by omega)).2];rcases qo x t with A|⟨J,A⟩
    ·rw[A,eb,eb,jP (by decide)];exact mg.no (by decide) rfl rfl rfl
    ·rw[A,eb,eb,iL rfl];exact mg.yes (f:=Fm.m7 0 x t) rfl rfl rfl I y.put (by omega)
   ·rw[k5 (by simpa using b),ea b,ea b];exact mg.no (by decide) rfl rfl rfl
def PN{L:List Fm}{t:Tm}(d:t.err=0){a:Pf}{N:Nat}(E:jF L a N):jF L (.mk 13 0 .z [t] [] [a]) (N+5):=by
 refine jF.of λn n' hn F p c h=>?_;have g:=h.pl.nv;rw[show n'+4=n'+2+2 from rfl,UR,Qu,U1,h.pl.abe,(nG h.pl.ctx g d).1,(nG h.pl.ctx g d).2];rcases yX d h.pl.ctx with⟨e,he,q1,z,G⟩|⟨s,q1,j,hs⟩
 ·rw[G,me he,eb,eb,ee (by rw[eA];exact he),ee (by rw[eA];exact he),jP he];exact mg.no he rfl rfl rfl
 ·obtain⟨I,f1,f2,f3⟩:=xu g j d;rw[q1,p4,eb,eb,ea nz,ea nz,iL rfl,f1,cl];rcases nK (E (n+2) (n'+2) (by omega) (by omega) p c h) 6 with⟨e,he,o,r,i⟩|⟨f,m,l,o,r,i,hu,B,u⟩
  ·rw[o,r,eb,ee (by rw[eA];exact he)];rcases i with i|⟨f,l,m,i,u,rfl,hu⟩
   ·rw[i,eb,ee (by rw[eA];exact he)];exact mg.no he rfl rfl rfl
   ·obtain⟨q,v,_⟩:=hu.union f3 (by have:=hu.len;omega) (by have:=f3.len;omega);rw[i,eb,ea nz,f2,cl,v,cl,ee (by rw[eA];exact u)];exact mg.no he rfl rfl rfl
  ·obtain⟨C,x,rfl,k,D⟩:=B.ty.DL u (.inr (.inr (.inl rfl)));have w:=B.sub (x:=x) (by simp) D;obtain⟨q,v,_⟩:=hu.union f3 (by have:=hu.len;omega) (by have:=f3.len;omega);rw[o,r,i,eb,eb,ea nz,ea nz,f2,cl,gS];simp only[Fm.eN,Fm.fv,Fm.eG,eU,js,cl,yv];rw[v,KD hu.lt,cl,ea (show¬eW 6 6=true by decide),(pV hs k).1,(pV hs k).2,cl,cl]
   by_cases b:s.nx C=true
   ·have:=(Ty.lX s C).1 b;subst this;have y:sC c.abe x t:=⟨w.err,d,s,D,j⟩;rw[lq (by rw[b];decide),ee b,ee b,(y.both (by omega)).1,(y.both (by omega)).2];rcases qo x t with A|⟨H,A⟩
    ·rw[A,eb,eb,jP (by decide)];exact mg.no (by decide) rfl rfl rfl
    ·rw[A,eb,eb,iL rfl];exact mg.yes (f:=Fm.m7 0 x t) rfl rfl rfl hu y.put (by omega)
   ·rw[k5 (by simpa using b),ea b,ea b];exact mg.no (by decide) rfl rfl rfl
def WT(n:Nat)(c:ej)(t:Tm)(F:Fm)(a:Pf):eF (n+2) c (.mk 10 0 .z [t] [F] [a])=iG (cv (ki c.abe F) λf=>if(eW f 0)=true then some (hW,[],f)else if(eW F.aba 5)=true then some (hW,[],10)else ei (kE c.abe t) λh g=>if(eW g 0)=true then some (hW,[],g)else cv (fP FU F.dv h) λi=>if i=true then cv (eI F.abb 0) λj=>ei (fw n c a j t) λk l=>cv (kP t) λm=>cv (gK k m) λo=>some (F,o,l)else some (hW,[],7)) λb d e=>some (b,d,e):=by
 rw[eF];show iG (lk (n+1) c (.mk 10 0 .z [t] [F] [a])) (λb d e=>some (b,d,e))=_;rw[lk];rfl
def Vu(n:Nat)(c:ej)(t:Tm)(F:Fm)(a:Pf):eF (n+2) c (.mk 14 0 .z [t] [F] [a])=iG (cv (ki c.abe F) λf=>if(eW f 0)=true then some (hW,[],f)else if(eW F.aba 7)=true then some (hW,[],10)else ei (kE c.abe t) λh g=>if(eW g 0)=true then some (hW,[],g)else cv (fP FU F.dv h) λi=>if i=true then cv (eI F.abb 0) λj=>ei (fw n c a j t) λk l=>some (F,k,l)else some (hW,[],7)) λb d e=>some (b,d,e):=by
 rw[eF];show iG (lk (n+1) c (.mk 14 0 .z [t] [F] [a])) (λb d e=>some (b,d,e))=_;rw[lk];rfl
def Vt(L:List Fm)(t:Tm)(F:Fm)(a:Pf)(g:List Ty)(hs:List Fm):ql L 10 0 .z [t] [F] (Pf.ub L [a]) g hs=ma (F.vE g) (wF (F.aba≠5) 10 (ma (t.ty g).2 (wF ((t.ty g).1.nx F.dv=false) 7 (pbind (J9 (a.inf L g hs) (F.abb.getD 0 hW) t) λ_ m=>.inl (F,m|||wK t))))):=rfl
def VM(L:List Fm)(t:Tm)(F:Fm)(a:Pf)(g:List Ty)(hs:List Fm):ql L 14 0 .z [t] [F] (Pf.ub L [a]) g hs=ma (F.vE g) (wF (F.aba≠7) 10 (ma (t.ty g).2 (wF ((t.ty g).1.nx F.dv=false) 7 (pbind (J9 (a.inf L g hs) (F.abb.getD 0 hW) t) λ_ m=>.inl (F,m))))):=rfl
def V0(n:Nat)(L:List Fm)(t:Tm)(F:Fm)(a:Pf)(p:eh):qL (n+1) L (.mk 10 0 .z [t] [F] [a]) p=cv (eX FU p.abe F) λc=>if(eW c 0)=true then some (⟨hW,0⟩,c)else if(eW F.aba 5)=true then some (⟨hW,0⟩,10)else ei (eY FU p.abe t) λh d=>if(eW d 0)=true then some (⟨hW,0⟩,d)else cv (ir h F.dv) λi=>if i=true then cv (eI F.abb 0) λe=>ei (fh n L a p e t) λf b=>if(eW b 0)=true then some (⟨hW,0⟩,b)else cv (kr t) λg=>some (⟨F,xm .u32 f.gp g⟩,0)else some (⟨hW,0⟩,7):=by
 show iD (n+1) L (.mk 10 0 .z [t] [F] [a]) p=_;rw[iD];rfl
def Ww(n:Nat)(L:List Fm)(t:Tm)(F:Fm)(a:Pf)(p:eh):qL (n+1) L (.mk 14 0 .z [t] [F] [a]) p=cv (eX FU p.abe F) λc=>if(eW c 0)=true then some (⟨hW,0⟩,c)else if(eW F.aba 7)=true then some (⟨hW,0⟩,10)else ei (eY FU p.abe t) λg d=>if(eW d 0)=true then some (⟨hW,0⟩,d)else cv (ir g F.dv) λh=>if h=true then cv (eI F.abb 0) λe=>ei (fh n L a p e t) λf b=>if(eW b 0)=true then some (⟨hW,0⟩,b)else some (⟨F,xm .u32 f.gp 0⟩,0)else some (⟨hW,0⟩,7):=by
 show iD (n+1) L (.mk 14 0 .z [t] [F] [a]) p=_;rw[iD];rfl
def PH{L:List Fm}{t:Tm}(d:t.err=0){F:Fm}(hF:F.err=0){a:Pf}{N:Nat}(G:jF L a N):jF L (.mk 10 0 .z [t] [F] [a]) (N+5):=by
 refine jF.of λn n' hn H p c h=>?_;have g:=h.pl.nv;obtain⟨t1,_,t2⟩:=sU h.pl.ctx (by omega) hF;have I:=(Fm.hZ hF).2;rw[show n'+4=n'+2+2 from rfl,WT,Vt,V0,h.pl.abe,(nG h.pl.ctx g d).1,(nG h.pl.ctx g d).2,t1,t2 g,cl,cl]
 by_cases j:F.vE c.abe=0
 ·have o:¬eW (F.vE c.abe) 0=true:=by rw[eA];simpa using j
  rw[ea o,ea o,iL j];have i:=sJ F (Fm.hZ hF).1 c.abe h.pl.ctx j
  by_cases k:F.aba=5
  ·have o:¬eW F.aba 5=true:=by rw[eA];simpa using k
   rw[ea o,ea o,lq (by simpa using k)];rcases yX d h.pl.ctx with⟨e,he,q1,z,J⟩|⟨s,q1,r,hs⟩
   ·rw[J,me he,eb,eb,ee (by rw[eA];exact he),ee (by rw[eA];exact he),jP he];exact mg.no he rfl rfl rfl
   ·obtain⟨v,x,rfl,u,E⟩:=i.DL k (.inr (.inl rfl));have w:Hg c.abe (.mk 5 v [] [x]):=⟨hF,i⟩;have y:=w.sub (x:=x) (by simp) E;obtain⟨P,f1,f2,f3⟩:=xu g r d;rw[q1,p4,eb,eb,ea nz,ea nz,iL rfl];simp only[Fm.eN,Fm.fv,Fm.eG,eU,js,cl,yv];rw[(pV hs u).1,(pV hs u).2,cl,cl]
    by_cases b:s.nx v=true
    ·have:=(Ty.lX s v).1 b;subst this;have K:sC c.abe x t:=⟨y.err,d,s,E,r⟩;rw[lq (by rw[b];decide),ee b,ee b];rcases sK g (G (n+2) (n'+1) (by omega) (by omega) p c h) K with⟨e,z,l,m,he,A,B,C,hu⟩|⟨f,m,l,A,B,C,hu⟩
     ·obtain⟨q,D,_⟩:=hu.union f3 (by have:=hu.len;omega) (by have:=f3.len;omega);rw[A,B,C,eb,eb,ee (by rw[eA];exact he),f2,cl,D];exact mg.no he rfl rfl rfl
     ·obtain⟨q,D,M,O,_⟩:=hu.union f3 (by have:=hu.len;omega) (by have:=f3.len;omega);rw[A,B,C,eb,eb,ea nz,f1,f2,cl,cl,gS];simp only[];rw[D,M];exact mg.yes rfl rfl rfl O i (by omega)
    ·rw[k5 (by simpa using b),ea b,ea b];exact mg.no (by decide) rfl rfl rfl
  ·rw[ee (by rw[eA];exact k),ee (by rw[eA];exact k),k5 k];exact mg.no (by decide) rfl rfl rfl
 ·rw[ee (by rw[eA];exact j),ee (by rw[eA];exact j),jP j];exact mg.no j rfl rfl rfl
def O_{L:List Fm}{t:Tm}(g:t.err=0){F:Fm}(hF:F.err=0){a:Pf}{N:Nat}(D:jF L a N):jF L (.mk 14 0 .z [t] [F] [a]) (N+5):=by
 refine jF.of λn n' hn E p c h=>?_;have i:=h.pl.nv;obtain⟨t1,_,t2⟩:=sU h.pl.ctx (by omega) hF;have G:=(Fm.hZ hF).2;rw[show n'+4=n'+2+2 from rfl,Vu,VM,Ww,h.pl.abe,(nG h.pl.ctx i g).1,(nG h.pl.ctx i g).2,t1,t2 i,cl,cl]
 by_cases j:F.vE c.abe=0
 ·have o:¬eW (F.vE c.abe) 0=true:=by rw[eA];simpa using j
  rw[ea o,ea o,iL j];have d:=sJ F (Fm.hZ hF).1 c.abe h.pl.ctx j
  by_cases k:F.aba=7
  ·have o:¬eW F.aba 7=true:=by rw[eA];simpa using k
   rw[ea o,ea o,lq (by simpa using k)];rcases yX g h.pl.ctx with⟨e,he,q1,z,H⟩|⟨s,q1,r,hs⟩
   ·rw[H,me he,eb,eb,ee (by rw[eA];exact he),ee (by rw[eA];exact he),jP he];exact mg.no he rfl rfl rfl
   ·obtain⟨u,x,rfl,q,C⟩:=d.DL k (.inr (.inr (.inr rfl)));have v:Hg c.abe (.mk 7 u [] [x]):=⟨hF,d⟩;have w:=v.sub (x:=x) (by simp) C;rw[q1,p4,eb,eb,ea nz,ea nz,iL rfl];simp only[Fm.eN,Fm.fv,Fm.eG,eU,js,cl,yv];rw[(pV hs q).1,(pV hs q).2,cl,cl]
    by_cases b:s.nx u=true
    ·have:=(Ty.lX s u).1 b;subst this;have I:sC c.abe x t:=⟨w.err,g,s,C,r⟩;rw[lq (by rw[b];decide),ee b,ee b];rcases sK i (D (n+2) (n'+1) (by omega) (by omega) p c h) I with⟨e,z,l,m,he,y,A,B,hu⟩|⟨f,m,l,y,A,B,hu⟩
     ·rw[y,A,B,eb,eb,ee (by rw[eA];exact he)];exact mg.no he rfl rfl rfl
     ·rw[y,A,B,eb,eb,ea nz,gS];simp only[];rw[KD hu.lt];exact mg.yes rfl rfl rfl hu d (by omega)
    ·rw[k5 (by simpa using b),ea b,ea b];exact mg.no (by decide) rfl rfl rfl
  ·rw[ee (by rw[eA];exact k),ee (by rw[eA];exact k),k5 k];exact mg.no (by decide) rfl rfl rfl
 ·rw[ee (by rw[eA];exact j),ee (by rw[eA];exact j),jP j];exact mg.no j rfl rfl rfl
def OB(k:Fm->Option (Fm×List Int×Int))(f:Fm):Option (Fm×List Int×Int):=
 cv (pz FU f 0) λc=>if c=true then ei (my FU f) λa b=>if(eW b 0)=true then some (hW,[],b)else cv (pz FU a 0) λd=>if d=true then some (hW,[],6)else k (.mk a.aba (.mk a.dv.aba a.dv.abb) a.ek a.abb)else k (.mk f.aba (.mk f.dv.aba f.dv.abb) f.ek f.abb)
def RV(n:Nat)(c:ej)(a b:Pf):eF (n+2) c (.mk 11 0 .z [] [] [a,b])=iG (ei (eK n c a) λh i=>if(eW i 0)=true then some (hW,[],i)else if(eW h.eg.aba 5)=true then some (hW,[],10)else cv (eT c 1 1) λj=>if(eW j 0)=true then some (hW,[],j)else cv (fK c [h.eg.dv]) λq=>cv (eI h.eg.abb 0) λr=>cv (gE q r) λs=>ei (eK n s b) λk l=>if(eW l 0)=true then some (hW,[],l)else OB (λf=>cv (gT FU f 1 (-1)) λm=>cv (gQ k.gp 1) λo=>cv (gK h.gp o) λp=>some (m,p,0)) k.eg) λd e g=>some (d,e,g):=by
 rw[eF];show iG (ke (n+1) c (.mk 11 0 .z [] [] [a,b])) (λd e g=>some (d,e,g))=_;rw[ke];rfl
def Q4(n:Nat)(c:ej)(a b:Pf):eF (n+2) c (.mk 15 0 .z [] [] [a,b])=iG (ei (eK n c a) λh j=>if(eW j 0)=true then some (hW,[],j)else if(eW h.eg.aba 7)=true then some (hW,[],10)else cv (eT c 1 1) λk=>if(eW k 0)=true then some (hW,[],k)else cv (fK c [h.eg.dv]) λr=>cv (eI h.eg.abb 0) λs=>cv (gE r s) λt=>ei (eK n t b) λi l=>if(eW l 0)=true then some (hW,[],l)else OB (λf=>cv (qE i.gp) λm=>if m=true then some (hW,[],12)else cv (gT FU f 1 (-1)) λo=>cv (gQ i.gp 1) λp=>cv (gK h.gp p) λq=>some (o,q,0)) i.eg) λd e g=>some (d,e,g):=by
 rw[eF];show iG (ke (n+1) c (.mk 15 0 .z [] [] [a,b])) (λd e g=>some (d,e,g))=_;rw[ke];rfl
def R_(L:List Fm)(a b:Pf)(g:List Ty)(hs:List Fm):ql L 11 0 .z [] [] (Pf.ub L [a,b]) g hs=pbind (EW (a.inf L g hs) 5) λa m=>wF (16<g.length+1\/16<hs.length+1) 3 (pbind (b.inf L (g++[a.dv]) (hs.map (Fm.up 0 1)++[a.abb.getD 0 hW])) λb n=>ma (GI b).2 (.inl ((GI b).1,m|||n/2))):=rfl
def Q6(L:List Fm)(a b:Pf)(g:List Ty)(hs:List Fm):ql L 15 0 .z [] [] (Pf.ub L [a,b]) g hs=pbind (EW (a.inf L g hs) 7) λa m=>wF (16<g.length+1\/16<hs.length+1) 3 (pbind (b.inf L (g++[a.dv]) (hs.map (Fm.up 0 1)++[a.abb.getD 0 hW])) λb n=>ma (GI b).2 (wF (n.testBit 0=true) 12 (.inl ((GI b).1,m|||n/2)))):=rfl
def RR(n:Nat)(L:List Fm)(a b:Pf)(p:eh):qL (n+1) L (.mk 11 0 .z [] [] [a,b]) p=ei (fa n L a p 5) λc d=>if(eW d 0)=true then some (⟨hW,0⟩,d)else cv (eV p.gk 1 1) λe=>if(eW e 0)=true then some (⟨hW,0⟩,e)else cv (fZ p [c.eg.dv]) λi=>cv (eI c.eg.abb 0) λj=>cv (gi i j) λk=>ei (eZ n L b k) λf g=>if(eW g 0)=true then some (⟨hW,0⟩,g)else ei (mP f.eg) λl h=>if(eW h 0)=true then some (⟨hW,0⟩,h)else cv (fJ f.gp 1) λm=>some (⟨l,xm .u32 c.gp m⟩,0):=by
 show iA (n+1) L (.mk 11 0 .z [] [] [a,b]) p=_;rw[iA];rfl
def R9(n:Nat)(L:List Fm)(a b:Pf)(p:eh):qL (n+1) L (.mk 15 0 .z [] [] [a,b]) p=ei (fa n L a p 7) λc e=>if(eW e 0)=true then some (⟨hW,0⟩,e)else cv (eV p.gk 1 1) λf=>if(eW f 0)=true then some (⟨hW,0⟩,f)else cv (fZ p [c.eg.dv]) λi=>cv (eI c.eg.abb 0) λj=>cv (gi i j) λk=>ei (eZ n L b k) λd g=>if(eW g 0)=true then some (⟨hW,0⟩,g)else ei (mP d.eg) λl h=>if(eW h 0)=true then some (⟨hW,0⟩,h)else if(eW (qA .u32 d.gp 1) 0)=true then some (⟨hW,0⟩,12)else cv (fJ d.gp 1) λm=>some (⟨l,xm .u32 c.gp m⟩,0):=by
 show iA (n+1) L (.mk 15 0 .z [] [] [a,b]) p=_;rw[iA];rfl
def L6{g:List Ty}{s:Ty}{f:Fm}(h:Hg (g++[s]) f)(hg:g.length<=1000)(k:Fm->Option (Fm×List Int×Int))(k':Fm->Option (Fm×List Int×Int))(j:∀x,x.abi 0=0->x.abc<=4096*4096->x.abg 1000000000000=true->k x=k' (x.up 1 (-1))):OB k f=if(GI f).2=0 then k' (GI f).1 else some (hW,[],(GI f).2):=by
 have hn:=h.abc;have l:f.abg 1000000000000=true:=h.ty.abg _ (by simp;omega);unfold OB;rw[Ce FU f 0 (by rw[fy];omega) (by omega) (by omega) (by omega),cl,Ty.lG,Fm.lG]
 by_cases e:f.abi 0=0
 ·have hw:GI f=(f.up 1 (-1),0):=by unfold GI;rw[ee e]
  rw[hw,ea (show¬(decide (0<f.abi 0)=true) by simp;omega)];exact(j f e (by omega) l).trans (ee rfl).symm
 ·rw[ee (show decide (0<f.abi 0)=true by simp;omega),EC FU f (by rw[fy];omega) (by omega) (TU.of f hn h.ok (h.ty.abg _ (by simp;omega)))];obtain⟨a,b,d⟩:∃a b,f.xn 0=(a,b):=⟨_,_,rfl⟩
  have hw:GI f=if b≠0 then(hW,b)else if a.abi 0≠0 then(hW,6)else(a.up 1 (-1),0):=by unfold GI;rw[ea e,d]
  rw[d];simp only[]
  by_cases he:b=0
  ·subst he;have c:=NP h.ty 0 (by simp;omega) hn (by rw[d]);rw[d] at c;obtain⟨_,a2,a3⟩:=c;have a2:kM (g++[s]) a:=a2;have a3:a.abc<=3000*f.abc:=a3;rw[ea (by decide)] at hw;rw[ee rfl,eb,ea nz,Ce FU a 0 (by rw[fy];omega) (by omega) (by omega) (by omega),cl,Ty.lG,Fm.lG]
   by_cases i:a.abi 0=0
   ·rw[ea (by simpa using i)] at hw;rw[hw,ea (show¬(decide (0<a.abi 0)=true) by simp;omega)];exact(j a i (by omega) (a2.abg _ (by simp;omega))).trans (ee rfl).symm
   ·rw[ee i] at hw;rw[hw,ee (show decide (0<a.abi 0)=true by simp;omega)];rfl
  ·rw[ee he] at hw
   have m:eW b 0=true:=by rw[eA];exact he
   rw[hw,ea he,eb,ee m,ea he]
def Ls{L:List Fm}{a b:Pf}{N:Nat}(M:jF L a N)(O:jF L b N):jF L (.mk 11 0 .z [] [] [a,b]) (N+5):=by
 refine jF.of λn n' hn P p c h=>?_;have Q:=h.pl.nv;rw[show n'+4=n'+2+2 from rfl,RV,R_,RR];rcases nK (M (n+2) (n'+2) (by omega) (by omega) p c h) 5 with⟨e,he,g,i,d⟩|⟨f,m,l,g,i,d,hu,E,A⟩
 ·rw[g,i,eb,ee (by rw[eA];exact he)];rcases d with d|⟨f,l,m,d,A,rfl,_⟩
  ·rw[d,eb,ee (by rw[eA];exact he)];exact mg.no he rfl rfl rfl
  ·rw[d,eb,ea nz,ee (by rw[eA];exact A)];exact mg.no he rfl rfl rfl
 ·obtain⟨s,x,rfl,hs,R⟩:=E.ty.DL A (.inr (.inl rfl));have B:=E.sub (x:=x) (by simp) R;rw[g,i,d,eb,eb,ea nz,ea nz,ea (by simp),gS];simp only[Fm.fv,Fm.eG,eU,js,cl,yv];rcases h.room (v:=1) (k:=1) (by omega) (by omega)with⟨j,o,F,S⟩|⟨j,o,F⟩
  ·have j:eV p.gk 1 1=some 0:=j;have o:eT c 1 1=some 0:=o;rw[j,o,cl,cl,ea nz,ea nz,lq (by omega)];obtain⟨p1,c1,T,U,V,G,H⟩:=h.below hs F;obtain⟨W,X,Y,Z,b3,b4,b5⟩:=V.with (f:=x) (by rw[G];exact B) (by rw[H];simpa using S);rw[T,U,cl,cl,Y,Z,cl,cl];have hi:=O (n+3) (n'+2) (by omega) (by omega) W X b3;rw[b4,b5,G,H] at hi;rcases hi with⟨e,he,g,i,d⟩|⟨f',I,J,g,i,d,u,r⟩
   ·rw[g,i,d,eb,eb,ee (by rw[eA];exact he),ee (by rw[eA];exact he)];exact mg.no he rfl rfl rfl
   ·obtain⟨C,D,K⟩:=u.out (by have:=u.len;omega) (k:=1) (by omega);have C:gQ J 1=some (xa ((1:Nat):Int) J):=C;have D:fJ (I:Int) 1=some ((I/2^1:Nat):Int):=D;obtain⟨q,v1,v2,v3,_⟩:=hu.union K (by have:=hu.len;omega) (by have:=K.len;omega);rw[g,i,d,eb,eb,ea nz,ea nz,gS];simp only[];rw[vW r (by omega)]
    rw[L6 r (by omega) _ (λy=>some (y,q,0)) (λy y1 y2 y3=>by
     rw[CH FU y 1 (by rw[fy];omega) (by omega) (by omega) (by omega) y3,cl,C,cl,v1,cl])]
    obtain⟨w,e,hw⟩:∃w e,GI f'=(w,e):=⟨_,_,rfl⟩;rw[hw,eb]
    by_cases he:e=0
    ·subst he;have t:=RC r (by omega) hs (by rw[hw]);rw[hw] at t;rw[ea nz,ee rfl,iL rfl,D,cl,v2];exact mg.yes rfl rfl rfl v3 t.1 (by have:=t.2;omega)
    ·rw[ee (by rw[eA];exact he),ea he,jP he];exact mg.no he rfl rfl rfl
  ·have j:eV p.gk 1 1=some 3:=j;have o:eT c 1 1=some 3:=o;rw[j,o,cl,cl,ee (by decide),ee (by decide),k5 (by omega)];exact mg.no (by decide) rfl rfl rfl
def L3{L:List Fm}{a b:Pf}{N:Nat}(Q:jF L a N)(g:jF L b N):jF L (.mk 15 0 .z [] [] [a,b]) (N+5):=by
 refine jF.of λn n' hn R p c h=>?_;have S:=h.pl.nv;rw[show n'+4=n'+2+2 from rfl,Q4,Q6,R9];rcases nK (Q (n+2) (n'+2) (by omega) (by omega) p c h) 7 with⟨e,he,i,j,d⟩|⟨f,m,l,i,j,d,hu,H,C⟩
 ·rw[i,j,eb,ee (by rw[eA];exact he)];rcases d with d|⟨f,l,m,d,C,rfl,_⟩
  ·rw[d,eb,ee (by rw[eA];exact he)];exact mg.no he rfl rfl rfl
  ·rw[d,eb,ea nz,ee (by rw[eA];exact C)];exact mg.no he rfl rfl rfl
 ·obtain⟨s,x,rfl,hs,T⟩:=H.ty.DL C (.inr (.inr (.inr rfl)));have D:=H.sub (x:=x) (by simp) T;rw[i,j,d,eb,eb,ea nz,ea nz,ea (by simp),gS];simp only[Fm.fv,Fm.eG,eU,js,cl,yv];rcases h.room (v:=1) (k:=1) (by omega) (by omega)with⟨o,r,I,U⟩|⟨o,r,I⟩
  ·have o:eV p.gk 1 1=some 0:=o;have r:eT c 1 1=some 0:=r;rw[o,r,cl,cl,ea nz,ea nz,lq (by omega)];obtain⟨p1,J,V,W,X,K,M⟩:=h.below hs I;obtain⟨Y,E,Z,b2,b3,b4,b5⟩:=X.with (f:=x) (by rw[K];exact D) (by rw[M];simpa using U);rw[V,W,cl,cl,Z,b2,cl,cl];have hi:=g (n+3) (n'+2) (by omega) (by omega) Y E b3;rw[b4,b5,K,M] at hi;rcases hi with⟨e,he,i,j,d⟩|⟨f',B,O,i,j,d,t,u⟩
   ·rw[i,j,d,eb,eb,ee (by rw[eA];exact he),ee (by rw[eA];exact he)];exact mg.no he rfl rfl rfl
   ·obtain⟨F,G,P⟩:=t.out (by have:=t.len;omega) (k:=1) (by omega);have F:gQ O 1=some (xa ((1:Nat):Int) O):=F;have G:fJ (B:Int) 1=some ((B/2^1:Nat):Int):=G;obtain⟨q,v1,v2,v3,_⟩:=hu.union P (by have:=hu.len;omega) (by have:=P.len;omega);rw[i,j,d,eb,eb,ea nz,ea nz,gS];simp only[];rw[vW u (by omega)];obtain⟨J,E⟩:=t.has
    rw[L6 u (by omega) _ (λy=>if B.testBit 0=true then some (hW,[],12)else some (y,q,0)) (λy y1 y2 y3=>by
     rw[J,cl,CH FU y 1 (by rw[fy];omega) (by omega) (by omega) (by omega) y3,cl,F,cl,v1,cl])]
    obtain⟨w,e,hw⟩:∃w e,GI f'=(w,e):=⟨_,_,rfl⟩;rw[hw,eb]
    by_cases he:e=0
    ·subst he;have A:=RC u (by omega) hs (by rw[hw]);rw[hw] at A;rw[ea nz,ee rfl,iL rfl,E]
     by_cases g:B.testBit 0=true
     ·rw[k5 g,ee g,ee g];exact mg.no (by decide) rfl rfl rfl
     ·rw[lq g,ea g,ea g,G,cl,v2];exact mg.yes rfl rfl rfl v3 A.1 (by have:=A.2;omega)
    ·rw[ee (by rw[eA];exact he),ea he,jP he];exact mg.no he rfl rfl rfl
  ·have o:eV p.gk 1 1=some 3:=o;have r:eT c 1 1=some 3:=r;rw[o,r,cl,cl,ee (by decide),ee (by decide),k5 (by omega)];exact mg.no (by decide) rfl rfl rfl
def kf.nat{g:List Ty}(h:kf g):kf (g++[.nat]):=h.app Ty.hO
def kf.pQ{g:List Ty}(h:kf g):kf (g++[.pQ]):=h.app Ty.pO
def JZ{g:List Ty}(d:kf g){t:Tm}(f:t.err=0){s:Ty}(hs:s=.nat\/s=.pQ)(h:pH t g s.aba=0):fk g t s:=by
 rcases yX f d with⟨e,he,q1,z,j⟩|⟨c,q1,i,a⟩
 ·unfold pH at h;rw[q1,ea (λh=>he h.1)] at h;exact absurd h he
 ·unfold pH at h;rw[q1] at h;simp only[FK] at h
  by_cases b:c.aba=s.aba
  ·have:c=s:=by
    rcases hs with rfl|rfl
    ·exact(vi a).1 b
    ·exact(CC a).1 b
   rwa [<-this]
  ·rw[ee b] at h;cases h
def uv{F:Fm}(hF:F.err=0)(a:F.abg 1000000000=true){f c:Nat}(b:f<=100)(d:c<=100):fR F (f:Int) (c:Int)=some (F.up f c)/\gT FU F (f:Int) (c:Int)=some (F.up f c):=by
 obtain⟨a1,a2⟩:=Fm.hZ hF;exact⟨t_ a1 (by omega) (Fm.mZ _ (by omega) a) (by omega) (by omega) (by omega) (by omega),tA FU F f c (by rw[fy];omega) (by omega) (by omega) (by omega) (by omega) (by omega) (Fm.mZ _ (by omega) a)⟩
def J_{F:Fm}(hF:F.err=0){f c:Int}(a:0<=f)(b:0<=c):(F.up f c).err=0:=by
 obtain⟨a1,a2⟩:=Fm.hZ hF;unfold Fm.err;rw[Fm.Je F f c a b,a1,ee rfl,Fm.qV,ea (by omega)]
def xL{F:Fm}{f:Int}:F.up f 0=F:=Fm.Mf F f
def Yo:zF.err=0:=by decide
def Ti:(Tm.mk 7 0 .z []).err=0:=by decide
def W4:(kQ v0).err=0:=by decide
def Wt:(Tm.mk 8 0 .z [v1,v0]).err=0:=by decide
def O6{L:List Fm}{p:eh}{c:ej}(h:PG L p c)(hn:c.abe.length+2<=16):∃b a,fZ p [.nat,.pQ]=some b/\fK c [.nat,.pQ]=some a/\PG L b a/\a.abe=c.abe++[.nat]++[.pQ]/\a.abh=c.abh.map (Fm.up 0 2):=by
 obtain⟨b,a,d,e,f,g,i⟩:=h.Qg (l:=[.nat,.pQ]) (λx hx=>by
  rcases lF.1 hx with rfl|hx
  ·exact Ty.hO
  ·rw[xG.1 hx];exact Ty.pO) hn
 exact⟨b,a,d,e,f,by rw[g];simp,i⟩
def T8(n:Nat)(c:ej)(t:Tm)(F:Fm)(a b:Pf):eF (n+2) c (.mk 16 0 .z [t] [F] [a,b])=iG (g_ (gf c.abe [.nat])<|cv (k0 (gv c.abe [.nat]) F) λh=>if(eW h 0)=true then some (hW,[],h)else cv (ij c t 1) λi=>if(eW i 0)=true then some (hW,[],i)else cv (gn 4 []) λy=>ei (fw n c a F y) λA j=>if(eW j 0)=true then some (hW,[],j)else cv (eT c 1 1) λk=>if(eW k 0)=true then some (hW,[],k)else cv (fK c [.nat]) λl=>cv (gE l F) λm=>cv (gT FU F 1 1) λo=>cv (gn 5 [v0]) λp=>ei (fw n m b o p) λq g=>if(eW g 0)=true then some (hW,[],g)else ei (jV F t) λr s=>cv (kP t) λu=>cv (gK u A) λv=>cv (gQ q 1) λw=>cv (gK v w) λx=>some (r,x,s)) λd e f=>some (d,e,f):=by
 rw[eF];show iG (nI (n+1) c (.mk 16 0 .z [t] [F] [a,b])) (λd e f=>some (d,e,f))=_;rw[nI,fF];rfl
def Tv(n:Nat)(c:ej)(t:Tm)(F:Fm)(a b:Pf):eF (n+2) c (.mk 17 0 .z [t] [F] [a,b])=iG (g_ (gf c.abe [.pQ])<|cv (k0 (gv c.abe [.pQ]) F) λh=>if(eW h 0)=true then some (hW,[],h)else cv (ij c t 2) λi=>if(eW i 0)=true then some (hW,[],i)else cv (gn 7 []) λA=>ei (fw n c a F A) λB j=>if(eW j 0)=true then some (hW,[],j)else cv (eT c 2 1) λk=>if(eW k 0)=true then some (hW,[],k)else cv (fK c [.nat,.pQ]) λl=>cv (gT FU F 1 1) λm=>cv (gE l m) λo=>cv (gT FU F 1 2) λp=>cv (gn 8 [v1,v0]) λq=>ei (fw n o b p q) λr g=>if(eW g 0)=true then some (hW,[],g)else ei (jV F t) λs u=>cv (kP t) λv=>cv (gK v B) λw=>cv (gQ r 2) λx=>cv (gK w x) λy=>some (s,y,u)) λd e f=>some (d,e,f):=by
 rw[eF];show iG (mi (n+1) c (.mk 17 0 .z [t] [F] [a,b])) (λd e f=>some (d,e,f))=_;rw[mi,fF,gO];rfl
def T0(L:List Fm)(t:Tm)(F:Fm)(a b:Pf)(g:List Ty)(hs:List Fm):ql L 16 0 .z [t] [F] (Pf.ub L [a,b]) g hs=ma (F.vE (g++[.nat])) (ma (pH t g 1) (pbind (J9 (a.inf L g hs) F zF) λ_ m=>wF (16<g.length+1\/16<hs.length+1) 3 (pbind (J9 (b.inf L (g++[.nat]) (hs.map (Fm.up 0 1)++[F])) (F.up 1 1) (kQ v0)) λ_ n=>ma (ot F t).2 (.inl ((ot F t).1,(wK t|||m)|||n/2))))):=rfl
def S3(L:List Fm)(t:Tm)(F:Fm)(a b:Pf)(g:List Ty)(hs:List Fm):ql L 17 0 .z [t] [F] (Pf.ub L [a,b]) g hs=ma (F.vE (g++[.pQ])) (ma (pH t g 2) (pbind (J9 (a.inf L g hs) F (.mk 7 0 .z [])) λ_ m=>wF (16<g.length+2\/16<hs.length+1) 3 (pbind (J9 (b.inf L (g++[.nat]++[.pQ]) (hs.map (Fm.up 0 2)++[F.up 1 1])) (F.up 1 2) (.mk 8 0 .z [v1,v0])) λ_ n=>ma (ot F t).2 (.inl ((ot F t).1,(wK t|||m)|||n/4))))):=rfl
def SU(n:Nat)(L:List Fm)(t:Tm)(F:Fm)(a b:Pf)(p:eh):qL (n+1) L (.mk 16 0 .z [t] [F] [a,b]) p=cv (gH p.abe [.nat]) λs=>cv (eX FU s F) λd=>if(eW d 0)=true then some (⟨hW,0⟩,d)else cv (iR p.abe t 1) λe=>if(eW e 0)=true then some (⟨hW,0⟩,e)else ei (fh n L a p F zF) λu f=>if(eW f 0)=true then some (⟨hW,0⟩,f)else cv (eV p.gk 1 1) λg=>if(eW g 0)=true then some (⟨hW,0⟩,g)else cv (fZ p [.nat]) λh=>cv (fR F 1 (fB .i64 1 1)) λi=>cv (gi h i) λj=>cv (fR F 1 1) λk=>ei (fh n L b j k (kQ v0)) λl c=>if(eW c 0)=true then some (⟨hW,0⟩,c)else ei (jd F t) λm o=>cv (kr t) λq=>cv (fJ l.gp 1) λr=>some (⟨m,xm .u32 (xm .u32 q u.gp) r⟩,o):=by
 show iB (n+1) L (.mk 16 0 .z [t] [F] [a,b]) p=_;rw[iB];simp only[Pf.eN,Pf.y5,Pf.hU,Pf.eG,eU,gx,js,m4,cl];rw[show ka 16=some (eP.mk 1 zF [.nat] (kQ v0)) by unfold ka;rw[p6];rfl];rfl
def Tx(n:Nat)(L:List Fm)(t:Tm)(F:Fm)(a b:Pf)(p:eh):qL (n+1) L (.mk 17 0 .z [t] [F] [a,b]) p=cv (gH p.abe [.pQ]) λs=>cv (eX FU s F) λd=>if(eW d 0)=true then some (⟨hW,0⟩,d)else cv (iR p.abe t 2) λe=>if(eW e 0)=true then some (⟨hW,0⟩,e)else ei (fh n L a p F (.mk 7 0 .z [])) λu f=>if(eW f 0)=true then some (⟨hW,0⟩,f)else cv (eV p.gk 2 1) λg=>if(eW g 0)=true then some (⟨hW,0⟩,g)else cv (fZ p [.nat,.pQ]) λh=>cv (fR F 1 (fB .i64 2 1)) λi=>cv (gi h i) λj=>cv (fR F 1 2) λk=>ei (fh n L b j k (.mk 8 0 .z [v1,v0])) λl c=>if(eW c 0)=true then some (⟨hW,0⟩,c)else ei (jd F t) λm o=>cv (kr t) λq=>cv (fJ l.gp 2) λr=>some (⟨m,xm .u32 (xm .u32 q u.gp) r⟩,o):=by
 show iB (n+1) L (.mk 17 0 .z [t] [F] [a,b]) p=_;rw[iB];simp only[Pf.eN,Pf.y5,Pf.hU,Pf.eG,eU,gx,js,m4,cl];rw[show ka 17=some (eP.mk 2 (.mk 7 0 .z []) [.nat,.pQ] (.mk 8 0 .z [v1,v0])) by unfold ka;rw[p6,B6];rfl];rfl
def Nq{L:List Fm}{t:Tm}(g:t.err=0){F:Fm}(hF:F.err=0){a b:Pf}{N:Nat}(ha:jF L a N)(hb:jF L b N):jF L (.mk 16 0 .z [t] [F] [a,b]) (N+5):=by
 refine jF.of λn n' hn aa p c h=>?_;have j:=h.pl.nv;have H:=h.pl.ctx;have ab:=(Fm.hZ hF).2;obtain⟨t1,t2,_⟩:=sU H.nat (by simp;omega) hF;obtain⟨s1,s2⟩:=has_both H j rfl g 1;rw[show n'+4=n'+2+2 from rfl,T8,T0,SU,h.pl.abe,se Ty.hO (by omega),cl,t1,cl,fl (by simp;omega),eo,gG,t2,cl,s1,s2,cl,cl]
 by_cases o:F.vE (c.abe++[.nat])=0
 ·have r:=o;rw[<-y8 (a:=_=_),<-ne_eq,<-eA] at r;rw[ea r,ea r,iL o];have d:=sJ F (Fm.hZ hF).1 _ H.nat o;have s:F.abg 1000000000=true:=d.abg _ (by simp;omega)
  by_cases u:pH t c.abe 1=0
  ·have r:=u;rw[<-y8 (a:=_=_),<-ne_eq,<-eA] at r;rw[ea r,ea r,iL u];have E:fk c.abe t .nat:=JZ H g (.inl rfl) u;have K:sC c.abe F zF:=⟨hF,Yo,.nat,d,.zero⟩;rw[show gn 4 []=some zF from FF,cl];rcases sK j (ha (n+2) (n'+1) (by omega) (by omega) p c h) K with⟨e,z,l,m,he,i,x,y,hu⟩|⟨f,m,l,i,x,y,hu⟩
   ·rw[i,x,y,eb,eb,ee (by rw[eA];exact he),ee (by rw[eA];exact he)];exact mg.no he rfl rfl rfl
   ·rw[i,x,y,eb,eb,ea nz,ea nz,gS];rcases h.room (v:=1) (k:=1) (by omega) (by omega)with⟨A,B,W,r4⟩|⟨A,B,W⟩
    ·have A:eV p.gk 1 1=some 0:=A;have B:eT c 1 1=some 0:=B;rw[A,B,cl,cl,ea nz,ea nz,lq (by omega)];obtain⟨p1,c1,e1,e2,e3,I,M⟩:=h.below Ty.hO W;obtain⟨p2,J,b1,b2,X,O,Y⟩:=e3.with (f:=F) (by rw[I];exact⟨hF,d⟩) (by rw[M];simpa using r4)
     have l1:fR F 1 (fB .i64 1 1)=some F:=by
      rw[fG (by omega) (by omega)];have:=(uv hF s (f:=1) (c:=0) (by omega) (by omega)).1;rw[show F.up ((1:Nat):Int) ((0:Nat):Int)=F from xL] at this;exact this
     have l2:fR F 1 1=some (F.up 1 1):=(uv hF s (f:=1) (c:=1) (by omega) (by omega)).1;have l3:gT FU F 1 1=some (F.up 1 1):=(uv hF s (f:=1) (c:=1) (by omega) (by omega)).2;rw[e1,e2,cl,cl,l1,cl,b1,b2,cl,cl,l2,l3,cl,cl];rw[show gn 5 [v0]=some (kQ v0)from IF (by decide),cl];have hi:=hb (n+2) (n'+1) (by omega) (by omega) p2 J X;have P:J.abe.length<=16:=X.pl.nv
     have G:J.abe=c.abe++[.nat]:=by rw[O,I]
     have Q:sC J.abe (F.up 1 1) (kQ v0):=⟨J_ hF (by omega) (by omega),W4,.nat,by
      rw[G];have:=d.up c.abe [.nat] [.nat] rfl
      simpa using this,by rw[G];exact .succ yg⟩
     rcases sK P hi Q with⟨e,z,R,S,he,i,x,y,C⟩|⟨f',S,R,i,x,y,C⟩
     ·rw[O,Y,I,M] at i;rw[i,x,y,eb,eb,ee (by rw[eA];exact he),ee (by rw[eA];exact he)];exact mg.no he rfl rfl rfl
     ·rw[O,Y,I,M] at i;obtain⟨lf,f1,f2,f3⟩:=xu j E g;have D:sC c.abe F t:=⟨hF,g,.nat,d,E⟩;obtain⟨T,U,Z⟩:=C.out (by have:=C.len;omega) (k:=1) (by omega);have T:gQ R 1=some (xa ((1:Nat):Int) R):=T;have U:fJ (S:Int) 1=some ((S/2^1:Nat):Int):=U;obtain⟨q,v1,v2,v3,_⟩:=f3.union hu (by have:=f3.len;omega) (by have:=hu.len;omega);obtain⟨q',w1,w2,w3,_⟩:=v3.union Z (by have:=v3.len;omega) (by have:=Z.len;omega);rw[i,x,y,eb,eb,ea nz,ea nz,gS,(D.both (by omega)).1,(D.both (by omega)).2];obtain⟨w,e,hw⟩:∃w e,ot F t=(w,e):=⟨_,_,rfl⟩;rw[hw,eb,eb,f1,f2,cl,cl,U,v1,cl,cl,T,cl,w1,cl];simp only[];rw[v2,w2];rcases qo F t with V|⟨ad,V⟩
      ·rw[V] at hw;obtain⟨rfl,rfl⟩:=jI hw;rw[jP (by decide)];exact mg.no (by decide) rfl rfl rfl
      ·rw[V] at hw;obtain⟨rfl,rfl⟩:=jI hw;rw[iL rfl];exact mg.yes (f:=Fm.m7 0 F t) rfl rfl rfl w3 D.put (by omega)
    ·have A:eV p.gk 1 1=some 3:=A;have B:eT c 1 1=some 3:=B;rw[A,B,cl,cl,ee (by decide),ee (by decide),k5 (by omega)];exact mg.no (by decide) rfl rfl rfl
  ·rw[ee (by rw[eA];exact u),ee (by rw[eA];exact u),jP u];exact mg.no u rfl rfl rfl
 ·rw[ee (by rw[eA];exact o),ee (by rw[eA];exact o),jP o];exact mg.no o rfl rfl rfl
def NK{L:List Fm}{t:Tm}(g:t.err=0){F:Fm}(hF:F.err=0){a b:Pf}{N:Nat}(ha:jF L a N)(hb:jF L b N):jF L (.mk 17 0 .z [t] [F] [a,b]) (N+5):=by
 refine jF.of λn n' hn aa p c h=>?_;have o:=h.pl.nv;have H:=h.pl.ctx;have ab:=(Fm.hZ hF).2;obtain⟨t1,t2,_⟩:=sU H.pQ (by simp;omega) hF;obtain⟨s1,s2⟩:=has_both H o rfl g 2;rw[show n'+4=n'+2+2 from rfl,Tv,S3,Tx,h.pl.abe,se Ty.pO (by omega),cl,t1,cl,fl (by simp;omega),eo,gG,t2,cl,s1,s2,cl,cl]
 by_cases r:F.vE (c.abe++[.pQ])=0
 ·have s:=r;rw[<-y8 (a:=_=_),<-ne_eq,<-eA] at s;rw[ea s,ea s,iL r];have d:=sJ F (Fm.hZ hF).1 _ H.pQ r;have i:F.abg 1000000000=true:=d.abg _ (by simp;omega)
  by_cases u:pH t c.abe 2=0
  ·have s:=u;rw[<-y8 (a:=_=_),<-ne_eq,<-eA] at s;rw[ea s,ea s,iL u];have E:fk c.abe t .pQ:=JZ H g (.inr rfl) u;have K:sC c.abe F (.mk 7 0 .z []):=⟨hF,Ti,.pQ,d,.nil⟩;rw[show gn 7 []=some (.mk 7 0 .z [])from FF,cl];rcases sK o (ha (n+2) (n'+1) (by omega) (by omega) p c h) K with⟨e,z,l,m,he,j,x,y,hu⟩|⟨f,m,l,j,x,y,hu⟩
   ·rw[j,x,y,eb,eb,ee (by rw[eA];exact he),ee (by rw[eA];exact he)];exact mg.no he rfl rfl rfl
   ·rw[j,x,y,eb,eb,ea nz,ea nz,gS];rcases h.room (v:=2) (k:=1) (by omega) (by omega)with⟨A,B,W,r4⟩|⟨A,B,W⟩
    ·have A:eV p.gk 2 1=some 0:=A;have B:eT c 2 1=some 0:=B;rw[A,B,cl,cl,ea nz,ea nz,lq (by omega)];obtain⟨p1,c1,e1,e2,e3,I,M⟩:=O6 h W;obtain⟨p2,J,b1,b2,X,O,Y⟩:=e3.with (f:=F.up 1 1) (by rw[I];exact⟨J_ hF (by omega) (by omega),by have:=d.up c.abe [.pQ] [.nat] rfl;simpa using this⟩) (by rw[M];simpa using r4)
     have l1:fR F 1 (fB .i64 2 1)=some (F.up 1 1):=by
      rw[fG (by omega) (by omega)];exact(uv hF i (f:=1) (c:=1) (by omega) (by omega)).1
     have l2:fR F 1 2=some (F.up 1 2):=(uv hF i (f:=1) (c:=2) (by omega) (by omega)).1;have l3:gT FU F 1 1=some (F.up 1 1):=(uv hF i (f:=1) (c:=1) (by omega) (by omega)).2;have l4:gT FU F 1 2=some (F.up 1 2):=(uv hF i (f:=1) (c:=2) (by omega) (by omega)).2;rw[e1,e2,cl,cl,l1,cl,l3,cl,b1,b2,cl,cl,l2,l4,cl,cl];rw[show gn 8 [v1,v0]=some (.mk 8 0 .z [v1,v0])from tN (by decide) (by decide),cl];have hi:=hb (n+2) (n'+1) (by omega) (by omega) p2 J X;have P:J.abe.length<=16:=X.pl.nv
     have G:J.abe=c.abe++[.nat]++[.pQ]:=by rw[O,I]
     have Q:sC J.abe (F.up 1 2) (.mk 8 0 .z [v1,v0]):=⟨J_ hF (by omega) (by omega),Wt,.pQ,by
      rw[G];have:=d.up c.abe [.pQ] [.nat,.pQ] rfl
      simpa using this,by rw[G];exact .cons LF yg⟩
     rcases sK P hi Q with⟨e,z,R,S,he,j,x,y,C⟩|⟨f',S,R,j,x,y,C⟩
     ·rw[O,Y,I,M] at j;rw[j,x,y,eb,eb,ee (by rw[eA];exact he),ee (by rw[eA];exact he)];exact mg.no he rfl rfl rfl
     ·rw[O,Y,I,M] at j;obtain⟨lf,f1,f2,f3⟩:=xu o E g;have D:sC c.abe F t:=⟨hF,g,.pQ,d,E⟩;obtain⟨T,U,Z⟩:=C.out (by have:=C.len;omega) (k:=2) (by omega);have T:gQ R 2=some (xa ((2:Nat):Int) R):=T;have U:fJ (S:Int) 2=some ((S/2^2:Nat):Int):=U;obtain⟨q,v1,v2,v3,_⟩:=f3.union hu (by have:=f3.len;omega) (by have:=hu.len;omega);obtain⟨q',w1,w2,w3,_⟩:=v3.union Z (by have:=v3.len;omega) (by have:=Z.len;omega);rw[j,x,y,eb,eb,ea nz,ea nz,gS,(D.both (by omega)).1,(D.both (by omega)).2];obtain⟨w,e,hw⟩:∃w e,ot F t=(w,e):=⟨_,_,rfl⟩;rw[hw,eb,eb,f1,f2,cl,cl,U,v1,cl,cl,T,cl,w1,cl];simp only[];rw[v2,w2];rcases qo F t with V|⟨ad,V⟩
      ·rw[V] at hw;obtain⟨rfl,rfl⟩:=jI hw;rw[jP (by decide)];exact mg.no (by decide) rfl rfl rfl
      ·rw[V] at hw;obtain⟨rfl,rfl⟩:=jI hw;rw[iL rfl];exact mg.yes (f:=Fm.m7 0 F t) rfl rfl rfl w3 D.put (by omega)
    ·have A:eV p.gk 2 1=some 3:=A;have B:eT c 2 1=some 3:=B;rw[A,B,cl,cl,ee (by decide),ee (by decide),k5 (by omega)];exact mg.no (by decide) rfl rfl rfl
  ·rw[ee (by rw[eA];exact u),ee (by rw[eA];exact u),jP u];exact mg.no u rfl rfl rfl
 ·rw[ee (by rw[eA];exact r),ee (by rw[eA];exact r),jP r];exact mg.no r rfl rfl rfl
def Tm.rU{t:Tm}(h:t.ok=true)(hn:t.abc<=4096):t.err=0:=by
 unfold Tm.err;rw[ee h,ea (by omega)]
def Wm(n:Nat)(c:ej)(t:Tm):eF (n+1) c (.mk 18 0 .z [t] [] [])=cv (mr t t) λa=>cv (ij c t 1) λb=>some (a,[],b):=by rw[eF];rfl
def P'(L:List Fm)(t:Tm)(g:List Ty)(hs:List Fm):ql L 18 0 .z [t] [] (Pf.ub L []) g hs=ma (pH t g 1) (.inl (.mk 1 .z [t,t] [],0)):=rfl
def Wz(n:Nat)(L:List Fm)(t:Tm)(p:eh):qL n L (.mk 18 0 .z [t] [] []) p=cv (iH p.abe t) λa=>if(eW a 0)=true then some (⟨hW,0⟩,a)else some (⟨.mk 1 .z [t,t] [],0⟩,0):=rfl
def O7{L:List Fm}{t:Tm}(a:t.err=0):jF L (.mk 18 0 .z [t] [] []) 5:=by
 refine jF.of (N:=0) λn n' _ _ p c h=>?_;have e:=h.pl.nv;have f:=h.pl.ctx;obtain⟨a1,a2⟩:=Tm.hZ a;have hw:=t.jx a1;rw[show n'+4=n'+3+1 from rfl,Wm,P',Wz,h.pl.abe,wJ a1 f (by omega),(has_both f e rfl a 1).2,DO (by omega) (by omega),cl,cl,cl]
 by_cases b:pH t c.abe 1=0
 ·have d:fk c.abe t .nat:=JZ f a (.inl rfl) b;rw[ea (by rw[eA];simpa using b),iL b,b];refine mg.yes rfl rfl rfl .nil (.eq d d) ?_;rw[Fm.ef];simp only[eC];omega
 ·rw[ee (by rw[eA];exact b),jP b];exact mg.no b rfl rfl rfl
def TH(n:Nat)(c:ej)(F:Fm)(a b:Pf):eF (n+2) c (.mk 19 0 .z [] [F] [a,b])=iG (g_ (gf c.abe [.nat])<|cv (k0 (gv c.abe [.nat]) F) λh=>if(eW h 0)=true then some (hW,[],h)else ei (eK n c a) λg i=>if(eW i 0)=true then some (hW,[],i)else if(eW g.eg.aba 1)=true then some (hW,[],10)else cv (eI g.eg.ek 0) λo=>ei (fw n c b F o) λp j=>if(eW j 0)=true then some (hW,[],j)else cv (eI g.eg.ek 1) λk=>ei (jV F k) λl m=>some (l,p,m)) λd e f=>some (d,e,f):=by
 rw[eF];show iG (mm (n+1) c (.mk 19 0 .z [] [F] [a,b])) (λd e f=>some (d,e,f))=_;rw[mm,fF];rfl
def TE(L:List Fm)(F:Fm)(a b:Pf)(g:List Ty)(hs:List Fm):ql L 19 0 .z [] [F] (Pf.ub L [a,b]) g hs=ma (F.vE (g++[.nat])) (pbind (EW (a.inf L g hs) 1) λa _=>pbind (J9 (b.inf L g hs) F (a.ek.getD 0 Tm.z)) λ_ n=>ma (ot F (a.ek.getD 1 Tm.z)).2 (.inl ((ot F (a.ek.getD 1 Tm.z)).1,n))):=rfl
def S6(n:Nat)(L:List Fm)(F:Fm)(a b:Pf)(p:eh):qL (n+1) L (.mk 19 0 .z [] [F] [a,b]) p=cv (gH p.abe [.nat]) λj=>cv (eX FU j F) λc=>if(eW c 0)=true then some (⟨hW,0⟩,c)else ei (fa n L a p 1) λd e=>if(eW e 0)=true then some (⟨hW,0⟩,e)else cv (eI d.eg.ek 0) λk=>ei (fh n L b p F k) λl f=>if(eW f 0)=true then some (⟨hW,0⟩,f)else cv (eI d.eg.ek 1) λg=>ei (jd F g) λh i=>some (⟨h,l.gp⟩,i):=by
 show kq (n+1) L (.mk 19 0 .z [] [F] [a,b]) p=_;rw[kq,p6];rfl
def Nt{L:List Fm}{F:Fm}(hF:F.err=0){a b:Pf}{N:Nat}(E:jF L a N)(G:jF L b N):jF L (.mk 19 0 .z [] [F] [a,b]) (N+5):=by
 refine jF.of λn n' hn H p c h=>?_;have r:=h.pl.nv;have B:=h.pl.ctx;have I:=(Fm.hZ hF).2;obtain⟨t1,t2,_⟩:=sU B.nat (by simp;omega) hF;rw[show n'+4=n'+2+2 from rfl,TH,TE,S6,h.pl.abe,se Ty.hO (by omega),cl,t1,cl,fl (by simp;omega),eo,gG,t2,cl]
 by_cases i:F.vE (c.abe++[.nat])=0
 ·have s:=i;rw[<-y8 (a:=_=_),<-ne_eq,<-eA] at s;rw[ea s,ea s,iL i];have g:=sJ F (Fm.hZ hF).1 _ B.nat i;rcases nK (E (n+2) (n'+2) (by omega) (by omega) p c h) 1 with⟨e,he,j,k,d⟩|⟨f,m,l,j,k,d,hu,C,t⟩
  ·rw[j,k,eb,ee (by rw[eA];exact he)];rcases d with d|⟨f,l,m,d,t,rfl,_⟩
   ·rw[d,eb,ee (by rw[eA];exact he)];exact mg.no he rfl rfl rfl
   ·rw[d,eb,ea nz,ee (by rw[eA];exact t)];exact mg.no he rfl rfl rfl
  ·obtain⟨x,y,rfl,D,hy⟩:=C.ty.Zn t;have q:=C.abc;rw[Fm.ef] at q;simp only[eC] at q;have u:x.err=0:=Tm.rU D.ok (by omega);have v:y.err=0:=Tm.rU hy.ok (by omega);have w:sC c.abe F x:=⟨hF,u,.nat,g,D⟩;have o:sC c.abe F y:=⟨hF,v,.nat,g,hy⟩;rw[j,k,d,eb,eb,ea nz,ea nz,ea (by simp),gS];simp only[Fm.hU,eU,gx,js,m4,cl,yv,My];rcases sK r (G (n+2) (n'+1) (by omega) (by omega) p c h) w with⟨e,z,l,m,he,j,k,d,hu⟩|⟨f,m,l,j,k,d,hu⟩
   ·rw[j,k,d,eb,eb,ee (by rw[eA];exact he),ee (by rw[eA];exact he)];exact mg.no he rfl rfl rfl
   ·rw[j,k,d,eb,eb,ea nz,ea nz,gS,(o.both (by omega)).1,(o.both (by omega)).2];rcases qo F y with A|⟨J,A⟩
    ·rw[A,eb,eb,jP (by decide)];exact mg.no (by decide) rfl rfl rfl
    ·rw[A,eb,eb,iL rfl];exact mg.yes (f:=Fm.m7 0 F y) rfl rfl rfl hu o.put (by omega)
 ·rw[ee (by rw[eA];exact i),ee (by rw[eA];exact i),jP i];exact mg.no i rfl rfl rfl
def Xn(f:Fm)(l:List Int):Option (Fm×List Int×Int):=
 eJ (λ(d:Bool)=>if d=true then some (hW,[],10)else cv (eI f.abb 0) λa=>cv (ld f.dv a.dv) λb=>cv (jw b) λe=>if(eW e 0)=true then some (hW,[],4)else cv (eI a.abb 0) λg=>cv (gT FU g 2 1) λh=>cv (gn 3 [v1,v0]) λi=>ei (jV h i) λj k=>cv (j3 4 f.dv j) λm=>cv (j3 5 b m) λn=>some (n,l,k)) λc=>if(eW f.aba 4)=true then c true else cv (eI f.abb 0) λo=>c (eW o.aba 5)
def TP{f:Fm}{l:List Int}(h:f.aba≠4):Xn f l=some (hW,[],10):=by
 have a:eW f.aba 4=true:=by rw[eA];exact h
 unfold Xn;rw[ey,ee a];rfl
def T7{s:Ty}{x:Fm}{l:List Int}(h:x.aba≠5):Xn (.mk 4 s [] [x]) l=some (hW,[],10):=by
 have o:eW x.aba 5=true:=by rw[eA];exact h
 have e:Xn (.mk 4 s [] [x]) l=(λ(c:Bool)=>if c=true then some (hW,[],10)else cv (eI [x] 0) λa=>cv (ld s a.dv) λb=>cv (jw b) λd=>if(eW d 0)=true then some (hW,[],4)else cv (eI a.abb 0) λf=>cv (gT FU f 2 1) λg=>cv (gn 3 [v1,v0]) λi=>ei (jV g i) λj k=>cv (j3 4 s j) λm=>cv (j3 5 b m) λn=>some (n,l,k)) (eW x.aba 5):=rfl;rw[e,o];rfl
def Yu{s u:Ty}{y:Fm}{l:List Int}:Xn (.mk 4 s [] [.mk 5 u [] [y]]) l=cv (ld s u) λa=>cv (jw a) λb=>if(eW b 0)=true then some (hW,[],4)else cv (gT FU y 2 1) λc=>cv (gn 3 [v1,v0]) λd=>ei (jV c d) λe f=>cv (j3 4 s e) λg=>cv (j3 5 a g) λh=>some (h,l,f):=rfl
def RY(n:Nat)(c:ej)(a:Pf):eF (n+2) c (.mk 20 0 .z [] [] [a])=iG (ei (eK n c a) λf g=>if(eW g 0)=true then some (hW,[],g)else Xn f.eg f.gp) λb d e=>some (b,d,e):=by
 rw[eF];show iG (lP (n+1) c (.mk 20 0 .z [] [] [a])) (λb d e=>some (b,d,e))=_;rw[lP];rfl
def Sr(L:List Fm)(a:Pf)(g:List Ty)(hs:List Fm):ql L 20 0 .z [] [] (Pf.ub L [a]) g hs=pbind (EW (a.inf L g hs) 4) λa m=>wF ((a.abb.getD 0 hW).aba≠5) 10 (wF ((Ty.fn a.dv (a.abb.getD 0 hW).dv).err≠0) 4 (wF ((ot (((a.abb.getD 0 hW).abb.getD 0 hW).up 2 1) (jS v1 v0)).2≠0) 4 (.inl (.mk 5 (Ty.fn a.dv (a.abb.getD 0 hW).dv) [] [.mk 4 a.dv [] [(ot (((a.abb.getD 0 hW).abb.getD 0 hW).up 2 1) (jS v1 v0)).1]],m)))):=rfl
def Zr(f:Fm)(u:Int):Option (ec×Int):=
 cv (eI f.abb 0) λa=>if(eW a.aba 5)=true then some (⟨hW,0⟩,10)else cv (o6 a.dv [f.dv]) λb=>cv (eI a.abb 0) λd=>cv (fR d 2 1) λe=>cv (iK 1) λg=>cv (iK 0) λh=>cv (rX g [h]) λi=>ei (jd e i) λj k=>eJ (λ(l:Bool)=>if l=true then some (⟨hW,0⟩,4)else cv (j4 4 f.dv j) λm=>cv (j4 5 b m) λn=>some (⟨n,u⟩,0)) λc=>if(eW k 0)=true then c true else cv (mE b) λo=>c (eW o 0)
def TJ{s:Ty}{x:Fm}{u:Int}(h:x.aba≠5):Zr (.mk 4 s [] [x]) u=some (⟨hW,0⟩,10):=by
 have a:eW x.aba 5=true:=by rw[eA];exact h
 unfold Zr;simp only[Fm.eG,eU,js,cl];rw[ee a]
def Qw(n:Nat)(L:List Fm)(a:Pf)(p:eh):qL (n+1) L (.mk 20 0 .z [] [] [a]) p=ei (fa n L a p 4) λb c=>if(eW c 0)=true then some (⟨hW,0⟩,c)else Zr b.eg b.gp:=by
 show jU (n+1) L (.mk 20 0 .z [] [] [a]) p=_;rw[jU];simp only[Pf.eG,eU,js,cl];rfl
def Za{s u:Ty}{y b:Fm}{m:Int}{q:Fm×Int}(v:fR y 2 1=some b)(x:jd b (jS v1 v0)=some q)(z:mE (.fn s u)=some (Ty.fn s u).err):Zr (.mk 4 s [] [.mk 5 u [] [y]]) m=if q.2=0/\(Ty.fn s u).err=0 then some (⟨.mk 5 (.fn s u) [] [.mk 4 s [] [q.1]],m⟩,0)else some (⟨hW,0⟩,4):=by
 obtain⟨w,e⟩:=q
 have A:Zr (.mk 4 s [] [.mk 5 u [] [y]]) m=cv (o6 u [s]) λa=>cv (fR y 2 1) λf=>cv (iK 1) λg=>cv (iK 0) λi=>cv (rX g [i]) λj=>ei (jd f j) λk l=>eJ (λ(n:Bool)=>if n=true then some (⟨hW,0⟩,4)else cv (j4 4 s k) λo=>cv (j4 5 a o) λp=>some (⟨p,m⟩,0)) λc=>if(eW l 0)=true then c true else cv (mE a) λr=>c (eW r 0):=by
  rfl
 rw[A,Px,cl,v,cl,show iK 1=some v1 from rfl,cl,show iK 0=some v0 from rfl,cl,BK,cl,show Tm.mk 3 0 (.mk 0 []) [v1,v0]=jS v1 v0 from rfl,x,eb,ey,z,cl]
 by_cases he:e=0
 ·subst he;rw[ea nz]
  by_cases d:(Ty.fn s u).err=0
  ·have t:eW (Ty.fn s u).err 0=false:=by rw[d];rfl
   rw[t,ee ⟨rfl,d⟩];rfl
  ·have t:eW (Ty.fn s u).err 0=true:=by rw[eA];exact d
   rw[t,ea (λh=>d h.2)];rfl
 ·rw[ee (by rw[eA];exact he),ea (λh=>he h.1)];rfl
def KE{L:List Fm}{a:Pf}{N:Nat}(E:jF L a N):jF L (.mk 20 0 .z [] [] [a]) (N+5):=by
 refine jF.of λn n' hn F p c h=>?_;have G:=h.pl.nv;rw[show n'+4=n'+2+2 from rfl,RY,Sr,Qw];rcases nK (E (n+2) (n'+2) (by omega) (by omega) p c h) 4 with⟨e,he,k,o,i⟩|⟨f,m,l,k,o,i,hu,C,r⟩
 ·rw[k,o,eb,ee (by rw[eA];exact he)];rcases i with i|⟨f,l,m,i,r,rfl,_⟩
  ·rw[i,eb,ee (by rw[eA];exact he)];exact mg.no he rfl rfl rfl
  ·rw[i,eb,ea nz,TP r];exact mg.no he rfl rfl rfl
 ·obtain⟨s,x,rfl,hs,D⟩:=C.ty.DL r (.inl rfl);have t:=C.sub (x:=x) (by simp) D;rw[k,o,i,eb,eb,ea nz,ea nz,gS]
  by_cases d:x.aba=5
  ·obtain⟨u,y,rfl,v,hy⟩:=D.DL d (.inr (.inl rfl));have g:=t.sub (x:=y) (by simp) hy;have H:=fD hs;have I:=fD v;have J:=g.abc
   have K:(Ty.fn s u).abc<=1000:=by rw[Ty.j1];omega
   have j:y.abg 1000000000=true:=hy.abg _ (by simp;omega);have M:fR y 2 1=some (y.up 2 1):=(uv g.err j (f:=2) (c:=1) (by omega) (by omega)).1;have O:gT FU y 2 1=some (y.up 2 1):=(uv g.err j (f:=2) (c:=1) (by omega) (by omega)).2
   have w:sC (c.abe++[.fn s u]++[s]) (y.up 2 1) (jS v1 v0):=⟨J_ g.err (by omega) (by omega),by decide,u,by
    have:=hy.up c.abe [s,u] [.fn s u] (by simp)
    simpa using this,.app LF yg⟩
   obtain⟨P,Q⟩:=w.both (by simp;omega);have R:=MR;have hw:=Fm.jx _ w.put.ok;simp only[Fm.eG,Fm.fv,Fm.eN,yv];rw[lq (by decide),Za M P (y' (by omega)),Yu,ji (by omega) (by omega),cl,mO (by omega),cl]
   by_cases b:(Ty.fn s u).err=0
   ·have A:¬eW (Ty.fn s u).err 0=true:=by rw[eA];simpa using b
    rw[ea A,lq (by simpa using b),O,cl,show gn 3 [v1,v0]=some (jS v1 v0)from tN (by decide) (by decide),cl,Q];rcases qo (y.up 2 1) (jS v1 v0)with B|⟨S,B⟩
    ·rw[B,ea (λh=>by cases h.1),eb,k5 (by decide),Dx (by omega) (by omega),cl];rw[Dx (by omega) (by rw[Fm.fI];simp only[eC];omega),cl];exact mg.no (by decide) rfl rfl rfl
    ·rw[B,ee ⟨rfl,b⟩,eb,lq (λh=>h rfl),Dx (by omega) (by omega),cl];rw[Dx (by omega) (by rw[Fm.fI];simp only[eC];omega),cl];refine mg.yes (f:=.mk 5 (.fn s u) [] [.mk 4 s [] [Fm.m7 0 (y.up 2 1) (jS v1 v0)]]) rfl rfl rfl hu (.q (.inr (.inl rfl)) b (.q (.inl rfl) hs w.put)) ?_;rw[Fm.ef];simp only[eC];rw[Fm.ef];simp only[eC];omega
   ·have A:eW (Ty.fn s u).err 0=true:=by rw[eA];exact b
    rw[ee A,k5 b,ea (λh=>b h.2)];exact mg.no (by decide) rfl rfl rfl
  ·simp only[Fm.eG,yv];rw[TJ d,T7 d,k5 d];exact mg.no (by decide) rfl rfl rfl
inductive zR:Pf->Prop
 |hyp {i}:0<=i->zR (.mk 1 i .z [] [] [])|NF {i}:0<=i->zR (.mk 2 i .z [] [] [])|YD {a b}:zR a->zR b->zR (.mk 3 0 .z [] [] [a,b])|and {k a}:k=4\/k=5->zR a->zR (.mk k 0 .z [] [] [a])|Yb {F a}:F.err=0->zR a->zR (.mk 6 0 .z [] [F] [a])|YH {a b}:zR a->zR b->zR (.mk 7 0 .z [] [] [a,b])|all {k s a}:k=8\/k=12->s.err=0->zR a->zR (.mk k 0 s [] [] [a])|atE {k t a}:k=9\/k=13->t.err=0->zR a->zR (.mk k 0 .z [t] [] [a])|ex {k t F a}:k=10\/k=14->t.err=0->F.err=0->zR a->zR (.mk k 0 .z [t] [F] [a])|opn {k a b}:k=11\/k=15->zR a->zR b->zR (.mk k 0 .z [] [] [a,b])|ind {k t F a b}:k=16\/k=17->t.err=0->F.err=0->zR a->zR b->zR (.mk k 0 .z [t] [F] [a,b])|refl {t}:t.err=0->zR (.mk 18 0 .z [t] [] [])|subst {F a b}:F.err=0->zR a->zR b->zR (.mk 19 0 .z [] [F] [a,b])|choice {a}:zR a->zR (.mk 20 0 .z [] [] [a])
mutual
def Pf.yx:Pf->Nat
 |.mk _ _ _ _ _ l=>1+Pf.vG l
def Pf.vG:List Pf->Nat
 |[]=>0|p::l=>p.yx+Pf.vG l
end
def jF.mono{L:List Fm}{P:Pf}{N M:Nat}(h:jF L P N)(a:N<=M):jF L P M:=λn n' b c=>h n n' (by omega) (by omega)
def Q_{L:List Fm}{P:Pf}(h:zR P):jF L P (5*P.yx):=by
 induction h with
 |hyp hi=>exact RP hi|NF hi=>exact Rv hi|YD _ _ a b=>exact(Pw (a.mono (Nb _ _)) (b.mono (Nz _ _))).mono (by simp only[Pf.yx,Pf.vG];omega)|and c _ a=>
  rcases c with rfl|rfl
  ·exact(OJ a).mono (by simp only[Pf.yx,Pf.vG];omega)
  ·exact(OU a).mono (by simp only[Pf.yx,Pf.vG];omega)
 |Yb hF _ a=>exact(PQ hF a).mono (by simp only[Pf.yx,Pf.vG];omega)|YH _ _ a b=>exact(OZ (a.mono (Nb _ _)) (b.mono (Nz _ _))).mono (by simp only[Pf.yx,Pf.vG];omega)|all c hs _ a=>
  rcases c with rfl|rfl
  ·exact(OE hs a).mono (by simp only[Pf.yx,Pf.vG];omega)
  ·exact(NH hs a).mono (by simp only[Pf.yx,Pf.vG];omega)
 |atE c d _ a=>
  rcases c with rfl|rfl
  ·exact(RT d a).mono (by simp only[Pf.yx,Pf.vG];omega)
  ·exact(PN d a).mono (by simp only[Pf.yx,Pf.vG];omega)
 |ex c d hF _ a=>
  rcases c with rfl|rfl
  ·exact(PH d hF a).mono (by simp only[Pf.yx,Pf.vG];omega)
  ·exact(O_ d hF a).mono (by simp only[Pf.yx,Pf.vG];omega)
 |opn c _ _ a b=>
  rcases c with rfl|rfl
  ·exact(Ls (a.mono (Nb _ _)) (b.mono (Nz _ _))).mono (by simp only[Pf.yx,Pf.vG];omega)
  ·exact(L3 (a.mono (Nb _ _)) (b.mono (Nz _ _))).mono (by simp only[Pf.yx,Pf.vG];omega)
 |ind c d hF _ _ a b=>
  rcases c with rfl|rfl
  ·exact(Nq d hF (a.mono (Nb _ _)) (b.mono (Nz _ _))).mono (by simp only[Pf.yx,Pf.vG];omega)
  ·exact(NK d hF (a.mono (Nb _ _)) (b.mono (Nz _ _))).mono (by simp only[Pf.yx,Pf.vG];omega)
 |refl d=>exact O7 d|subst hF _ _ a b=>exact(Nt hF (a.mono (Nb _ _)) (b.mono (Nz _ _))).mono (by simp only[Pf.yx,Pf.vG];omega)|choice _ a=>exact(KE a).mono (by simp only[Pf.yx,Pf.vG];omega)
mutual
def Pf.abc:Pf->Nat
 |.mk _ _ _ ts fs l=>1+eC Tm.abc ts+eC Fm.abc fs+Pf.oy l
def Pf.oy:List Pf->Nat
 |[]=>0|p::l=>p.abc+Pf.oy l
end
def Pf.rM:∀l:List Pf,Pf.oy l=eC Pf.abc l
 |[]=>by rw[Pf.oy];rfl|p::l=>by rw[Pf.oy,Pf.rM l];rfl
def Pf.ef(k i:Int)(s:Ty)(ts:List Tm)(fs:List Fm)(l:List Pf):(Pf.mk k i s ts fs l).abc=1+eC Tm.abc ts+eC Fm.abc fs+eC Pf.abc l:=by rw[Pf.abc,Pf.rM]
mutual
def Pf.wt:Pf->Nat
 |.mk _ _ s ts fs l=>1+s.abc+eC Tm.wt ts+eC Fm.wt fs+Pf.M9 l
def Pf.M9:List Pf->Nat
 |[]=>0|p::l=>p.wt+Pf.M9 l
end
def Pf.DD:∀l:List Pf,Pf.M9 l=eC Pf.wt l
 |[]=>by rw[Pf.M9];rfl|p::l=>by rw[Pf.M9,Pf.DD l];rfl
def Pf.fI(k i:Int)(s:Ty)(ts:List Tm)(fs:List Fm)(l:List Pf):(Pf.mk k i s ts fs l).wt=1+s.abc+eC Tm.wt ts+eC Fm.wt fs+eC Pf.wt l:=by rw[Pf.wt,Pf.DD]
def Pf.jt(p:Pf):1<=p.wt:=by cases p;rw[Pf.fI];omega
def Pf.ind{p:Pf->Prop}(h:∀k i s ts fs l,(∀t∈l,p t)->p (.mk k i s ts fs l))(t:Pf):p t:=by
 match t with
 |.mk k i s ts fs l=>exact h k i s ts fs l λx a=>Pf.ind h x
termination_by SizeOf.sizeOf t
decreasing_by
 have:=Vb a;simp only[Pf.mk.sizeOf_spec];omega
def Pf.iO(p:Pf):p.abc<=p.wt:=by
 induction p using Pf.ind with
 |h k i s ts fs l a=>
  rw[Pf.ef,Pf.fI];have b:=kJ (l:=ts) (λx _=>Tm.iO x);have c:=kJ (l:=fs) (λx _=>Fm.iO x);have d:=kJ (l:=l) a;omega
def Pf.sig(k:Int):Option (Bool×Bool×Nat×Nat×Nat):=
 if k=1\/k=2 then some (true,false,0,0,0)
 else if k=3\/k=7\/k=11\/k=15 then some (false,false,0,0,2)
 else if k=4\/k=5\/k=20 then some (false,false,0,0,1)
 else if k=6 then some (false,false,0,1,1)
 else if k=8\/k=12 then some (false,true,0,0,1)
 else if k=9\/k=13 then some (false,false,1,0,1)
 else if k=10\/k=14 then some (false,false,1,1,1)
 else if k=16\/k=17 then some (false,false,1,1,2)
 else if k=18 then some (false,false,1,0,0)
 else if k=19 then some (false,false,0,1,2)
 else none
def Pf.node(k i:Int)(s:Ty)(d nf e:Nat):Bool:=
 match Pf.sig k with
 |none=>false|some (f,ty,a,b,c)=>decide (d=a)&&decide (nf=b)&&decide (e=c)&&decide (0<=i)&&(f||decide (i=0))&&(if ty=true then decide (s.err=0)else s.rq)
mutual
def Pf.ok:Pf->Bool
 |.mk k i s ts fs l=>Pf.node k i s ts.length fs.length l.length&&ts.all Tm.ok&&fs.all Fm.ok&&Pf.Iu l
def Pf.Iu:List Pf->Bool
 |[]=>true|p::l=>p.ok&&Pf.Iu l
end
def Pf.zo:∀l:List Pf,Pf.Iu l=l.all Pf.ok
 |[]=>by rw[Pf.Iu];rfl|p::l=>by rw[Pf.Iu,Pf.zo l];rfl
def Pf.hY(k i:Int)(s:Ty)(ts:List Tm)(fs:List Fm)(l:List Pf):(Pf.mk k i s ts fs l).ok=(Pf.node k i s ts.length fs.length l.length&&ts.all Tm.ok&&fs.all Fm.ok&&l.all Pf.ok):=by rw[Pf.ok,Pf.zo]
def Ph(t:Tm):Bool:=decide (t.abc<=4096)
def Qn(f:Fm):Bool:=decide (f.abc<=4096)
mutual
def Pf.small:Pf->Bool
 |.mk _ _ _ ts fs l=>ts.all Ph&&fs.all Qn&&Pf.Gb l
def Pf.Gb:List Pf->Bool
 |[]=>true|p::l=>p.small&&Pf.Gb l
end
def Pf.IK:∀l:List Pf,Pf.Gb l=l.all Pf.small
 |[]=>by rw[Pf.Gb];rfl|p::l=>by rw[Pf.Gb,Pf.IK l];rfl
def Pf.xt(k i:Int)(s:Ty)(ts:List Tm)(fs:List Fm)(l:List Pf):(Pf.mk k i s ts fs l).small=(ts.all Ph&&fs.all Qn&&l.all Pf.small):=by rw[Pf.small,Pf.IK]
def Pf.err(p:Pf):Int:=if p.ok=true then(if p.small=true/\p.abc<=16384 then 0 else 4)else 2
def UW{k:Int}(h:Pf.sig k≠none):k=1\/k=2\/k=3\/k=4\/k=5\/k=6\/k=7\/k=8\/k=9\/k=10\/k=11\/k=12\/k=13\/k=14\/k=15\/k=16\/k=17\/k=18\/k=19\/k=20:=by
 refine Classical.byContradiction λhn=>h ?_;unfold Pf.sig;simp only[not_or] at hn;rw[ea (by omega),ea (by omega),ea (by omega),ea (by omega),ea (by omega),ea (by omega),ea (by omega),ea (by omega),ea (by omega),ea (by omega)]
def L8{k:Int}(h:k<1\/20<k):Pf.sig k=none:=by
 unfold Pf.sig;rw[ea (by omega),ea (by omega),ea (by omega),ea (by omega),ea (by omega),ea (by omega),ea (by omega),ea (by omega),ea (by omega),ea (by omega)]
def PK(k:Int):(Pf.sig k=none/\∃r,pR k=some (r,false))\/∃d ty a b c r,Pf.sig k=some (d,ty,a,b,c)/\pR k=some (r,true)/\r.abd=d/\r.typed=ty/\r.ek=((a:Nat):Int)/\r.fi=((b:Nat):Int)/\r.abb=((c:Nat):Int):=by
 by_cases h:k<1\/20<k
 ·refine .inl ⟨L8 h,?_⟩;unfold pR;rw[ee (by rw[l7,p8,lS,jk];omega)];exact⟨_,rfl⟩
 ·have e:k=1\/k=2\/k=3\/k=4\/k=5\/k=6\/k=7\/k=8\/k=9\/k=10\/k=11\/k=12\/k=13\/k=14\/k=15\/k=16\/k=17\/k=18\/k=19\/k=20:=by omega
  refine .inr ?_;rcases e with rfl|rfl|rfl|rfl|rfl|rfl|rfl|rfl|rfl|rfl|rfl|rfl|rfl|rfl|rfl|rfl|rfl|rfl|rfl|rfl<;>exact⟨_,_,_,_,_,_,rfl,rfl,rfl,rfl,rfl,rfl,rfl⟩
def NN(k:Int):(Pf.sig k=none/\∃r,pX k=some (r,false))\/∃d ty a b c r,Pf.sig k=some (d,ty,a,b,c)/\pX k=some (r,true)/\r.abd=d/\r.pF=ty/\r.ek=((a:Nat):Int)/\r.fi=((b:Nat):Int)/\r.abb=((c:Nat):Int):=by
 by_cases h:k<1\/20<k
 ·refine .inl ⟨L8 h,?_⟩;unfold pX;simp only[l7,p8,gB];rw[ea (by omega),ea (by omega),ea (by omega),ea (by omega),ea (by omega),ea (by omega),ea (by omega),ea (by omega),ea (by omega),ea (by omega),ea (by omega)];exact⟨_,rfl⟩
 ·have e:k=1\/k=2\/k=3\/k=4\/k=5\/k=6\/k=7\/k=8\/k=9\/k=10\/k=11\/k=12\/k=13\/k=14\/k=15\/k=16\/k=17\/k=18\/k=19\/k=20:=by omega
  refine .inr ?_;rcases e with rfl|rfl|rfl|rfl|rfl|rfl|rfl|rfl|rfl|rfl|rfl|rfl|rfl|rfl|rfl|rfl|rfl|rfl|rfl|rfl<;>exact⟨_,_,_,_,_,_,rfl,rfl,rfl,rfl,rfl,rfl,rfl⟩
def kn{k i:Int}{s:Ty}{f nf g:Nat}(h:Pf.node k i s f nf g=true){j ty:Bool}{a b c:Nat}(hs:Pf.sig k=some (j,ty,a,b,c)):(f:Int)=a/\(nf:Int)=b/\(g:Int)=c/\0<=i/\(j=false->i=0)/\(ty=true->s.err=0)/\(ty=false->s=.mk 0 []):=by
 unfold Pf.node at h;rw[hs] at h;simp only[gL,ni,p8] at h;obtain⟨⟨⟨⟨⟨o,p⟩,q⟩,l⟩,m⟩,d⟩:=h;refine⟨by omega,by omega,by omega,l,λn=>m.resolve_left (by simp[n]),λe=>?_,λe=>?_⟩
 ·rw[ee e] at d;simpa using d
 ·rw[ea (by simp[e])] at d;exact(Ty.mL s).1 d
def Pf.w(p:Pf):p.ok=true->p.small=true->zR p:=by
 induction p using Pf.ind with
 |h k i s ts fs l y=>
  intro v hs;rw[Pf.hY] at v;rw[Pf.xt] at hs;simp only[gL,k4] at v hs;obtain⟨⟨⟨m,z⟩,A⟩,B⟩:=v;obtain⟨⟨s1,s2⟩,C⟩:=hs;have r:∀t∈ts,t.err=0:=λt q=>Tm.rU (z t q) (by have:=s1 t q;simpa[Ph] using this)
  have u:∀f∈fs,f.err=0:=λf q=>by
   have:=s2 f q;simp only[Qn,ni] at this;unfold Fm.err;rw[ee (A f q),ea (by omega)]
  have j:∀x∈l,zR x:=λx q=>y x q (B x q) (C x q);clear y z A B s1 s2 C;have D:=UW (k:=k) (λhn=>by unfold Pf.node at m;rw[hn] at m;cases m);rcases D with rfl|rfl|rfl|rfl|rfl|rfl|rfl|rfl|rfl|rfl|rfl|rfl|rfl|rfl|rfl|rfl|rfl|rfl|rfl|rfl
  ·obtain⟨q1,c,d,n,e,o,g⟩:=kn m rfl;obtain rfl:=hB.1 q1;obtain rfl:=hB.1 c;obtain rfl:=hB.1 d;obtain rfl:=g rfl;exact .hyp n
  ·obtain⟨q1,c,d,n,e,o,g⟩:=kn m rfl;obtain rfl:=hB.1 q1;obtain rfl:=hB.1 c;obtain rfl:=hB.1 d;obtain rfl:=g rfl;exact .NF n
  ·obtain⟨q1,c,d,n,e,o,g⟩:=kn m rfl;obtain rfl:=hB.1 q1;obtain rfl:=hB.1 c;obtain⟨a,b,rfl⟩:=qJ d;obtain rfl:=e rfl;obtain rfl:=g rfl;exact .YD (j a (by simp)) (j b (by simp))
  ·obtain⟨q1,c,d,n,e,o,g⟩:=kn m rfl;obtain rfl:=hB.1 q1;obtain rfl:=hB.1 c;obtain⟨a,rfl⟩:=jO d;obtain rfl:=e rfl;obtain rfl:=g rfl;exact .and (.inl rfl) (j a (by simp))
  ·obtain⟨q1,c,d,n,e,o,g⟩:=kn m rfl;obtain rfl:=hB.1 q1;obtain rfl:=hB.1 c;obtain⟨a,rfl⟩:=jO d;obtain rfl:=e rfl;obtain rfl:=g rfl;exact .and (.inr rfl) (j a (by simp))
  ·obtain⟨q1,c,d,n,e,o,g⟩:=kn m rfl;obtain rfl:=hB.1 q1;obtain⟨F,rfl⟩:=jO c;obtain⟨a,rfl⟩:=jO d;obtain rfl:=e rfl;obtain rfl:=g rfl;exact .Yb (u F (by simp)) (j a (by simp))
  ·obtain⟨q1,c,d,n,e,o,g⟩:=kn m rfl;obtain rfl:=hB.1 q1;obtain rfl:=hB.1 c;obtain⟨a,b,rfl⟩:=qJ d;obtain rfl:=e rfl;obtain rfl:=g rfl;exact .YH (j a (by simp)) (j b (by simp))
  ·obtain⟨q1,c,d,n,e,o,g⟩:=kn m rfl;obtain rfl:=hB.1 q1;obtain rfl:=hB.1 c;obtain⟨a,rfl⟩:=jO d;obtain rfl:=e rfl;exact .all (.inl rfl) (o rfl) (j a (by simp))
  ·obtain⟨q1,c,d,n,e,o,g⟩:=kn m rfl;obtain⟨t,rfl⟩:=jO q1;obtain rfl:=hB.1 c;obtain⟨a,rfl⟩:=jO d;obtain rfl:=e rfl;obtain rfl:=g rfl;exact .atE (.inl rfl) (r t (by simp)) (j a (by simp))
  ·obtain⟨q1,c,d,n,e,o,g⟩:=kn m rfl;obtain⟨t,rfl⟩:=jO q1;obtain⟨F,rfl⟩:=jO c;obtain⟨a,rfl⟩:=jO d;obtain rfl:=e rfl;obtain rfl:=g rfl;exact .ex (.inl rfl) (r t (by simp)) (u F (by simp)) (j a (by simp))
  ·obtain⟨q1,c,d,n,e,o,g⟩:=kn m rfl;obtain rfl:=hB.1 q1;obtain rfl:=hB.1 c;obtain⟨a,b,rfl⟩:=qJ d;obtain rfl:=e rfl;obtain rfl:=g rfl;exact .opn (.inl rfl) (j a (by simp)) (j b (by simp))
  ·obtain⟨q1,c,d,n,e,o,g⟩:=kn m rfl;obtain rfl:=hB.1 q1;obtain rfl:=hB.1 c;obtain⟨a,rfl⟩:=jO d;obtain rfl:=e rfl;exact .all (.inr rfl) (o rfl) (j a (by simp))
  ·obtain⟨q1,c,d,n,e,o,g⟩:=kn m rfl;obtain⟨t,rfl⟩:=jO q1;obtain rfl:=hB.1 c;obtain⟨a,rfl⟩:=jO d;obtain rfl:=e rfl;obtain rfl:=g rfl;exact .atE (.inr rfl) (r t (by simp)) (j a (by simp))
  ·obtain⟨q1,c,d,n,e,o,g⟩:=kn m rfl;obtain⟨t,rfl⟩:=jO q1;obtain⟨F,rfl⟩:=jO c;obtain⟨a,rfl⟩:=jO d;obtain rfl:=e rfl;obtain rfl:=g rfl;exact .ex (.inr rfl) (r t (by simp)) (u F (by simp)) (j a (by simp))
  ·obtain⟨q1,c,d,n,e,o,g⟩:=kn m rfl;obtain rfl:=hB.1 q1;obtain rfl:=hB.1 c;obtain⟨a,b,rfl⟩:=qJ d;obtain rfl:=e rfl;obtain rfl:=g rfl;exact .opn (.inr rfl) (j a (by simp)) (j b (by simp))
  ·obtain⟨q1,c,d,n,e,o,g⟩:=kn m rfl;obtain⟨t,rfl⟩:=jO q1;obtain⟨F,rfl⟩:=jO c;obtain⟨a,b,rfl⟩:=qJ d;obtain rfl:=e rfl;obtain rfl:=g rfl;exact .ind (.inl rfl) (r t (by simp)) (u F (by simp)) (j a (by simp)) (j b (by simp))
  ·obtain⟨q1,c,d,n,e,o,g⟩:=kn m rfl;obtain⟨t,rfl⟩:=jO q1;obtain⟨F,rfl⟩:=jO c;obtain⟨a,b,rfl⟩:=qJ d;obtain rfl:=e rfl;obtain rfl:=g rfl;exact .ind (.inr rfl) (r t (by simp)) (u F (by simp)) (j a (by simp)) (j b (by simp))
  ·obtain⟨q1,c,d,n,e,o,g⟩:=kn m rfl;obtain⟨t,rfl⟩:=jO q1;obtain rfl:=hB.1 c;obtain rfl:=hB.1 d;obtain rfl:=e rfl;obtain rfl:=g rfl;exact .refl (r t (by simp))
  ·obtain⟨q1,c,d,n,e,o,g⟩:=kn m rfl;obtain rfl:=hB.1 q1;obtain⟨F,rfl⟩:=jO c;obtain⟨a,b,rfl⟩:=qJ d;obtain rfl:=e rfl;obtain rfl:=g rfl;exact .subst (u F (by simp)) (j a (by simp)) (j b (by simp))
  ·obtain⟨q1,c,d,n,e,o,g⟩:=kn m rfl;obtain rfl:=hB.1 q1;obtain rfl:=hB.1 c;obtain⟨a,rfl⟩:=jO d;obtain rfl:=e rfl;obtain rfl:=g rfl;exact .choice (j a (by simp))
end Go.hJ
