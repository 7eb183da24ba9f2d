/- Part of the proof of KernelTyped: plain facts. -/
import Derived.Test.YtobcafblgapgfaaGreatDoorP1
set_option linter.all false
namespace Go.hI
open Go
def zH(g:List Ty)(s:Ty):g.map ti++[ti s]=(g++[s]).map ti:=by simp
def DU:∀(n:Nat) (t:Tm),t.ab'<=n->t.ok=true->∀g,iR g->g.length+t.ab'<=1000000->eY n (g.map ti) t=some (I5 (t.ty g)):=by
 intro n
 induction n with
 |zero=>intro t h;have:=t.eP;omega
 |succ n l=>
  intro t hn B
  have one:∀{a:Tm} {g:List Ty} {ts:List Ty},a.ok=true->iR g->Tm.uO [a] g=.inl ts->∃x,ts=[x]/\x.err=0:=by
   intro a g ts j hg h;rcases Dc j hg with⟨e,_,o⟩|⟨x,o,f⟩<;>rw[h] at o<;>cases o;exact⟨x,rfl,f⟩
  have two:∀{a b:Tm} {g:List Ty} {ts:List Ty},a.ok=true->b.ok=true->iR g->Tm.uO [a,b] g=.inl ts->∃x y,ts=[x,y]/\x.err=0/\y.err=0:=by
   intro a b g ts j k hg h;rcases Cd j k hg with⟨e,_,o⟩|⟨x,y,o,f,hy⟩<;>rw[h] at o<;>cases o;exact⟨x,y,rfl,f,hy⟩
  have three:∀{a b c:Tm} {g:List Ty} {ts:List Ty},a.ok=true->b.ok=true->c.ok=true->iR g->Tm.uO [a,b,c] g=.inl ts->∃x y z,ts=[x,y,z]/\x.err=0/\y.err=0/\z.err=0:=by
   intro a b c g ts j k m hg h;rcases BA j k m hg with⟨e,_,o⟩|⟨x,y,z,o,f,hy,u⟩<;>rw[h] at o<;>cases o;exact⟨x,y,z,rfl,f,hy,u⟩
  refine Tm.pk (p:=λt=>t.ab'<=n+1->∀g,iR g->g.length+t.ab'<=1000000->eY (n+1) (g.map ti) t=some (I5 (t.ty g))) ?_ ?_ ?_ ?_ ?_ ?_ ?_ ?_ ?_ ?_ ?_ ?_ ?_ t B hn
  ·intro i _ g hg k;rw[Tm.ef] at k;rw[eY,ee (by rfl),Tm.nP,ee rfl];simp only[Tm.gx,fR,G9]
   by_cases hi:(i:Int)<(g.length:Int)
   ·rw[ea (by simp only[iU];omega),ee hi];rw[fH (a:=(g.length:Int)) (by omega) (by omega),fH (by omega) (by omega)]
    have v:g.length-1-i<g.length:=by omega
    have:eJ (g.map ti) ((g.length:Int)-1-(i:Int))=some (ti g[g.length-1-i]):=by
     unfold eJ;rw[ee (by omega),show((g.length:Int)-1-(i:Int)).toNat=g.length-1-i by omega,uA,oD v];rfl
    rw[this];simp only[cl,AP];rw[NF,oD v];exact congrArg some (qk _).symm
   ·rw[ee (by simp only[iU];omega),ea hi,me (by decide)];rfl
  ·intro s b hs k hn g hg d;rw[Tm.ef] at hn d;simp only[eE] at hn d;rw[eY,ea (by simp),ee (by rfl),Tm.nP,ea (by decide),ee rfl,Tm.tyH];simp only[Tm.fw,Tm.eG,lI hs,eU,jA,cl,gY];rw[fx (by simp;omega),eo,zH,l b (by omega) k (g++[s]) (hg.app hs) (by simp;omega)];have A:=λh=>(q9 _ b (jo _) k (g++[s]) (hg.app hs) (b.ty (g++[s])).1 (xO h)).2;generalize b.ty (g++[s])=q at A;obtain⟨r,e⟩:=q;simp only[Mc]
   by_cases w:e=0
   ·subst w;have C:r.err=0:=A rfl;have D:=fC hs;have E:=fC C;rw[qk,eb,ea (by decide),ea (by simp),zI 4 (by omega) (by omega)]
    by_cases m:64<1+s.ab'+r.ab'
    ·rw[ee m,ee m,me (by decide)];rfl
    ·rw[ea m,ea m,qk];rfl
   ·rw[me w,eb,ee (by simpa[eW] using w),ee w,me w];rfl
  ·intro a b j k hn g hg d;rw[Tm.ef] at hn d;simp only[eE] at hn d;refine lT (by decide) (by decide) (by simp) (by intro x f;simp at f;rcases f with rfl|rfl<;>first|exact l _ (by omega) j g hg (by omega)|exact l _ (by omega) k g hg (by omega)) (λts h=>?_);obtain⟨x,y,rfl,f,hy⟩:=two j k hg h;exact Tf f hy
  ·intro hn g hg d;exact lT (by decide) (by decide) (by simp) (by simp) (λts h=>by rw[Tm.uO] at h;cases h;exact PC)
  ·intro a j hn g hg d;rw[Tm.ef] at hn d;simp only[eE] at hn d;refine lT (by decide) (by decide) (by simp) (by intro x f;simp at f;subst f;exact l _ (by omega) j g hg (by omega)) (λts h=>?_);obtain⟨x,rfl,f⟩:=one j hg h;exact PS f
  ·intro s a b c hs j k m hn g hg d;rw[Tm.ef] at hn d;simp only[eE] at hn d;refine lT (by decide) (by decide) (by simp) (by intro x f;simp at f;rcases f with rfl|rfl|rfl<;>first|exact l _ (by omega) j g hg (by omega)|exact l _ (by omega) k g hg (by omega)|exact l _ (by omega) m g hg (by omega)) (λts h=>?_);obtain⟨x,y,z,rfl,f,hy,u⟩:=three j k m hg h;exact Q0 hs f hy u
  ·intro hn g hg d;exact lT (by decide) (by decide) (by simp) (by simp) (λts h=>by rw[Tm.uO] at h;cases h;exact Td)
  ·intro a b j k hn g hg d;rw[Tm.ef] at hn d;simp only[eE] at hn d;refine lT (by decide) (by decide) (by simp) (by intro x f;simp at f;rcases f with rfl|rfl<;>first|exact l _ (by omega) j g hg (by omega)|exact l _ (by omega) k g hg (by omega)) (λts h=>?_);obtain⟨x,y,rfl,f,hy⟩:=two j k hg h;exact Qw f hy
  ·intro s a b c hs j k m hn g hg d;rw[Tm.ef] at hn d;simp only[eE] at hn d;refine lT (by decide) (by decide) (by simp) (by intro x f;simp at f;rcases f with rfl|rfl|rfl<;>first|exact l _ (by omega) j g hg (by omega)|exact l _ (by omega) k g hg (by omega)|exact l _ (by omega) m g hg (by omega)) (λts h=>?_);obtain⟨x,y,z,rfl,f,hy,u⟩:=three j k m hg h;exact QA hs f hy u
  ·intro a b j k hn g hg d;rw[Tm.ef] at hn d;simp only[eE] at hn d;refine lT (by decide) (by decide) (by simp) (by intro x f;simp at f;rcases f with rfl|rfl<;>first|exact l _ (by omega) j g hg (by omega)|exact l _ (by omega) k g hg (by omega)) (λts h=>?_);obtain⟨x,y,rfl,f,hy⟩:=two j k hg h;exact PY f hy
  ·intro a j hn g hg d;rw[Tm.ef] at hn d;simp only[eE] at hn d;refine lT (by decide) (by decide) (by simp) (by intro x f;simp at f;subst f;exact l _ (by omega) j g hg (by omega)) (λts h=>?_);obtain⟨x,rfl,f⟩:=one j hg h;exact RY f
  ·intro a j hn g hg d;rw[Tm.ef] at hn d;simp only[eE] at hn d;refine lT (by decide) (by decide) (by simp) (by intro x f;simp at f;subst f;exact l _ (by omega) j g hg (by omega)) (λts h=>?_);obtain⟨x,rfl,f⟩:=one j hg h;exact Q6 f
  ·intro hn g hg d;exact lT (by decide) (by decide) (by simp) (by simp) (λts h=>by rw[Tm.uO] at h;cases h;exact PL)
def xk{t:Tm}{g:List Ty}(a:t.ok=true)(hg:iR g)(b:g.length+t.ab'<=1000000):eY FU (g.map ti) t=some (I5 (t.ty g)):=
 DU FU t (by have:=fy;omega) a g hg b
noncomputable def pQ (t:Tm) (g:List Ty) (k:Int):Int:=if(t.ty g).2=0/\(t.ty g).1.ab9≠k then 7 else(t.ty g).2
def AX{t:Tm}{g:List Ty}(k:Int)(c:t.ok=true)(hg:iR g)(d:g.length+t.ab'<=1000000):iT (g.map ti) t k=some (pQ t g k):=by
 unfold iT pQ;rw[xk c hg d];generalize t.ty g=q;obtain⟨r,e⟩:=q
 by_cases a:e=0
 ·subst a;rw[qk,eb];simp only[ez];rw[ee (by rfl),Ei,cl,EN]
  by_cases b:r.ab9=k
  ·rw[wa b,ea (by decide),ea (λh=>h.2 b)]
  ·rw[Dx b,ee (by decide),ee ⟨trivial,b⟩]
 ·rw[me a,eb];simp only[ez];rw[ea (by simpa[eH] using a),ea (by decide),ea (λh=>a h.1)]
def xP{t:Tm}{g:List Ty}(a:t.ok=true)(hg:iR g)(b:g.length+t.ab'<=1000000):iK (g.map ti) t=some (pQ t g 1):=by
 unfold iK;rw[AX 1 a hg b];rfl
mutual
noncomputable def Fm.vw:Fm->List Ty->Int
 |.mk k s ts l,g=>if fX (ts.map λt=>pQ t g 1)=0 then Fm.SG l (if kQ k=true then g++[s] else g)else fX (ts.map λt=>pQ t g 1)
noncomputable def Fm.SG:List Fm->List Ty->Int
 |[],_=>0|f::l,g=>if f.vw g=0 then Fm.SG l g else f.vw g
end
def Fm.O4(g:List Ty):∀l:List Fm,Fm.SG l g=fX (l.map λf=>f.vw g)
 |[]=>by rw[Fm.SG];rfl|f::l=>by rw[Fm.SG,Fm.O4 g l];rfl
def Fm.ug(k:Int)(s:Ty)(ts:List Tm)(l:List Fm)(g:List Ty):(Fm.mk k s ts l).vw g=if fX (ts.map λt=>pQ t g 1)=0 then fX (l.map λf=>f.vw (if kQ k=true then g++[s] else g))else fX (ts.map λt=>pQ t g 1):=by
 rw[Fm.vw,Fm.O4]
def y8{t:Tm}{g:List Ty}(a:t.ok=true)(hn:t.ab'<=4096)(hg:iR g)(b:g.length<=900000):qA g t=some (t.ty g):=by
 unfold qA;have hw:=t.jF a;rw[na (by omega)]
 have he:t.err=0:=by unfold Tm.err;rw[ee a,ea (by omega)]
 rw[he];simp only[cl];rw[ea (by decide),zu FU t (by have:=fy;omega) a g hg (by omega)];rfl
def JM{t:Tm}{g:List Ty}(f:t.ok=true)(hn:t.ab'<=4096)(hg:iR g)(i:g.length<=900000):(ek (qA g t) λd a=>if(eW a 0)=true then(some (.ret a))else(if(eW d.ab9 1)=true then(some (.ret 7))else(some (.next ()))):Option (gj Unit Int))=
   if pQ t g 1≠0 then some (.ret (pQ t g 1))else some (.next ()):=by
 rw[y8 f hn hg i];unfold pQ;generalize t.ty g=q;obtain⟨r,e⟩:=q;simp only[eb,ey]
 by_cases b:e=0
 ·subst b
  by_cases c:r.ab9=1
  ·rw[ea (by simp),ea (by simp[c]),ea (show¬((0:Int)=0/\r.ab9≠1)fromλh=>h.2 c),ea (by simp)]
  ·rw[ea (by simp),ee c,ee (show(0:Int)=0/\r.ab9≠1 from⟨rfl,c⟩),ee (by decide)]
 ·rw[ee b,ea (show¬(e=0/\r.ab9≠1)fromλh=>b h.1),ee b]
def s5{e:Int}:(cv (some e) λa=>if(eW a 0)=true then(some (.ret a))else(some (.next ())):Option (gj Unit Int))=if e≠0 then some (.ret e)else some (.next ()):=by
 rw[cl]
 by_cases h:e=0
 ·subst h;rfl
 ·rw[ee (by simpa[eW] using h),ee h]
def vM{l:List Int}{k:Unit⊕Int->Option Int}(h:k=gd (λ_=>some 0) (λr=>some r)):cv (if fX l=0 then some (.inl ())else some (.inr (fX l))) k=some (fX l):=by
 subst h
 by_cases h:fX l=0
 ·rw[ee h,h];rfl
 ·rw[ea h];rfl
def zD(f:Fm)(v:f.ok=true):∀n,f.ab'<=n->∀g,iR g->g.length+f.ab'<=900000->f.ab'<=4096->mK n g f=some (f.vw g):=by
 refine Fm.pk (p:=λf=>∀n,f.ab'<=n->∀g,iR g->g.length+f.ab'<=900000->f.ab'<=4096->mK n g f=some (f.vw g)) ?_ ?_ ?_ f v
 ·intro a b l u n hn g hg c d;rw[Fm.ef] at hn c d;simp only[eE] at hn c d;obtain⟨n,rfl⟩:∃m,n=m+1:=⟨n-1,by omega⟩;rw[mK,Fm.ug];simp only[ez,Fm.hJ,Fm.eG,Fm.eN,mq,cl]
  rw[eB (by simp),eo,lk (λt=>pQ t g 1) [a,b] 0 (λj x e=>by
   simp only[ma,SC,Zf] at e;rcases e with rfl|rfl
   ·exact JM l (by omega) hg (by omega)
   ·exact JM u (by omega) hg (by omega))]
  rw[show kQ 1=false from rfl]
  by_cases h:fX ([a,b].map λt=>pQ t g 1)=0
  ·rw[ee h,ee h];rfl
  ·rw[ea h,ea h];rfl
 ·intro k a b o l u i q n hn g hg c d;rw[Fm.ef] at hn c d;simp only[eE] at hn c d;obtain⟨n,rfl⟩:∃m,n=m+1:=⟨n-1,by omega⟩
  have r:kQ k=false:=by rcases o with rfl|rfl<;>rfl
  rw[mK,Fm.ug];simp only[ez,Fm.hJ,Fm.eG,Fm.eN,mq,cl,r,Nc,fX]
  rw[eB (by simp),eo,pq,cl,ei,ea (by decide),ee trivial,eB (by simp),eo,lk (λf=>f.vw g) [a,b] 0 (λj x e=>by
   simp only[ma,SC,Zf] at e;rcases e with rfl|rfl
   ·rw[i n (by omega) g hg (by omega) (by omega)];exact s5
   ·rw[q n (by omega) g hg (by omega) (by omega)];exact s5)]
  exact vM rfl
 ·intro k s a o hs l i n hn g hg c d;rw[Fm.ef] at hn c d;simp only[eE] at hn c d;obtain⟨n,rfl⟩:∃m,n=m+1:=⟨n-1,by omega⟩
  have r:kQ k=true:=by rcases o with rfl|rfl|rfl|rfl<;>rfl
  rw[mK,Fm.ug];simp only[ez,Fm.hJ,Fm.eG,Fm.eN,Fm.fw,mq,cl,r,Nc,fX];rw[eB (by simp),eo,pq,cl,ei];simp only[if_true]
  rw[fx (by simp;omega),eo,gY,eB (by simp),eo,lk (λf=>f.vw (g++[s])) [a] 0 (λj x e=>by
   simp only[ma,SC,Zf] at e;subst e
   rw[i n (by omega) (g++[s]) (hg.app hs) (by simp;omega) (by omega)];exact s5)]
  exact vM rfl
def sA{g:List Ty}{s:Ty}(hs:s.err=0)(a:g.length<=900000):gH (g.map ti) [s]=some ((g++[s]).map ti):=by
 unfold gH oL;simp only[ez];rw[eB (by simp),eo,fl,lI hs];simp only[cl];rw[fx (by simp),eo];simp only[cl,ft,pq,ei,gY,o_];rw[fx (by simp;omega),eo,zH]
def EP{t:Tm}{g:List Ty}(b:t.ok=true)(hn:t.ab'<=4096)(hg:iR g)(c:g.length<=900000):(cv (iK (g.map ti) t) λa=>if(eW a 0)=true then(some (.ret a))else(some (.next ())):Option (gj Unit Int))=if pQ t g 1≠0 then some (.ret (pQ t g 1))else some (.next ()):=by
 rw[xP b hg (by omega)];exact s5
def wh(f:Fm)(A:f.ok=true):∀n,f.ab'<=n->∀g,iR g->g.length+f.ab'<=900000->f.ab'<=4096->eX n (g.map ti) f=some (f.vw g):=by
 refine Fm.pk (p:=λf=>∀n,f.ab'<=n->∀g,iR g->g.length+f.ab'<=900000->f.ab'<=4096->eX n (g.map ti) f=some (f.vw g)) ?_ ?_ ?_ f A
 ·intro a b u y n hn g hg c d;rw[Fm.ef] at hn c d;simp only[eE] at hn c d;obtain⟨n,rfl⟩:∃m,n=m+1:=⟨n-1,by omega⟩;rw[eX,Fm.ug];simp only[ez,Fm.hJ,Fm.eG]
  rw[ea (by simp),ea (by simp),ea (by simp),eB (by simp),eo,lk (λt=>pQ t g 1) [a,b] 0 (λj x e=>by
   simp only[ma,SC,Zf] at e;rcases e with rfl|rfl
   ·exact EP u (by omega) hg (by omega)
   ·exact EP y (by omega) hg (by omega))]
  rw[vM rfl]
  by_cases h:fX ([a,b].map λt=>pQ t g 1)=0
  ·rw[ee h,h];rfl
  ·rw[ea h]
 ·intro k a b l u y o v n hn g hg c d;rw[Fm.ef] at hn c d;simp only[eE] at hn c d;obtain⟨n,rfl⟩:∃m,n=m+1:=⟨n-1,by omega⟩
  have w:kQ k=false:=by rcases l with rfl|rfl<;>rfl
  have B:fU (eH k 4) true (eH k 5)=false:=by rcases l with rfl|rfl<;>rfl
  have k2:fU (eH k 6) true (eH k 7)=false:=by rcases l with rfl|rfl<;>rfl
  have C:fU (eH k 2) true (eH k 3)=true:=by rcases l with rfl|rfl<;>rfl
  rw[eX,Fm.ug];simp only[ez,Fm.hJ,Fm.eG,w,Nc,fX];rw[ea (by simp only[Fm.eN,B];decide),ea (by simp only[Fm.eN,k2];decide),ee (by simp only[Fm.eN,C])];simp only[if_true,tY,P5]
  rw[eB (by simp),eo,lk (λf=>f.vw g) [a,b] 0 (λj x e=>by
   simp only[ma,SC,Zf] at e;rcases e with rfl|rfl
   ·rw[o n (by omega) g hg (by omega) (by omega)];exact s5
   ·rw[v n (by omega) g hg (by omega) (by omega)];exact s5)]
  exact vM rfl
 ·intro k s a l hs u o n hn g hg c d;rw[Fm.ef] at hn c d;simp only[eE] at hn c d;obtain⟨n,rfl⟩:∃m,n=m+1:=⟨n-1,by omega⟩
  have w:kQ k=true:=by rcases l with rfl|rfl|rfl|rfl<;>rfl
  rw[eX,Fm.ug];simp only[ez,Fm.hJ,Fm.eG,Fm.fw,w,Nc,fX,sA hs (show g.length<=900000 by omega),cl,if_true]
  have fin:(gS (fm [a])<|cv (fp (λ(z:Int) (q:Fm)=>(λ(_:Unit)=>
    cv (eX n ((g++[s]).map ti) q) λi=>
    if(eW i 0)=true then(
    some (.ret i))
    else(some (.next ()))):Int->Fm->(Unit)->(Option (gj (Unit) (Int)))) [a] 0 ()) (gd (λ(_:Unit)=>some 0) (λr=>some r)))=some (fX ([a].map λf=>f.vw (g++[s]))):=by
   rw[eB (by simp),eo,lk (λf=>f.vw (g++[s])) [a] 0 (λj x e=>by
    simp only[ma,SC,Zf] at e;subst e
    rw[o n (by omega) (g++[s]) (hg.app hs) (by simp;omega) (by omega)];exact s5)]
   exact vM rfl
  rcases l with rfl|rfl|rfl|rfl
  ·rw[ee (by simp)];exact fin
  ·rw[ee (by simp)];exact fin
  ·rw[ea (by simp),ee (by simp)];exact fin
  ·rw[ea (by simp),ee (by simp)];exact fin
mutual
def Fm.up(f b:Int):Fm->Fm
 |.mk k s ts l=>.mk k s (ts.map (Tm.up f b)) (Fm.UW (f+qB k) b l)
def Fm.UW(f b:Int):List Fm->List Fm
 |[]=>[]|t::l=>t.up f b::Fm.UW f b l
end
def Fm.NN(f b:Int)(l:List Fm):Fm.UW f b l=l.map (Fm.up f b):=by
 induction l with
 |nil=>rfl|cons t l a=>simp[Fm.UW,a]
def Fm.l7(f b k:Int)(s:Ty)(ts:List Tm)(l:List Fm):(Fm.mk k s ts l).up f b=.mk k s (ts.map (Tm.up f b)) (l.map (Fm.up (f+qB k) b)):=by rw[Fm.up,Fm.NN]
mutual
def Fm.ace(m:Int):Fm->Bool
 |.mk _ _ ts l=>ts.all (Tm.ace m)&&Fm.rE m l
def Fm.rE(m:Int):List Fm->Bool
 |[]=>true|t::l=>t.ace m&&Fm.rE m l
end
def Fm.uQ(m:Int)(l:List Fm):Fm.rE m l=l.all (Fm.ace m):=by
 induction l with
 |nil=>rfl|cons t l a=>simp[Fm.rE,a]
theorem Fm.fo(m k:Int)(s:Ty)(ts:List Tm)(l:List Fm):(Fm.mk k s ts l).ace m=(ts.all (Tm.ace m)&&l.all (Fm.ace m)):=by rw[Fm.ace,Fm.uQ]
mutual
def Fm.acg(a:Int):Fm->Nat
 |.mk k _ ts l=>eE (Tm.acg a) ts+Fm.yb (a+qB k) l
def Fm.yb(a:Int):List Fm->Nat
 |[]=>0|t::l=>t.acg a+Fm.yb a l
end
def Fm.DJ(a:Int)(l:List Fm):Fm.yb a l=eE (Fm.acg a) l:=by
 induction l with
 |nil=>rfl|cons t l b=>simp[Fm.yb,eE,b]
def Fm.gU(a k:Int)(s:Ty)(ts:List Tm)(l:List Fm):(Fm.mk k s ts l).acg a=eE (Tm.acg a) ts+eE (Fm.acg (a+qB k)) l:=by rw[Fm.acg,Fm.DJ]
mutual
def Fm.jX:Int->Fm->Tm->Fm
 |n,.mk k ty ts l,s=>.mk k ty (ts.map λx=>Tm.jX n x s) (Fm.Ka (n+qB k) l s)
def Fm.Ka:Int->List Fm->Tm->List Fm
 |_,[],_=>[]|n,t::l,s=>Fm.jX n t s::Fm.Ka n l s
end
def Fm.Kg(n:Int)(s:Tm)(l:List Fm):Fm.Ka n l s=l.map (λx=>Fm.jX n x s):=by
 induction l with
 |nil=>rfl|cons t l a=>simp[Fm.Ka,a]
def Fm.ot(n:Int)(s:Tm)(k:Int)(ty:Ty)(ts:List Tm)(l:List Fm):Fm.jX n (Fm.mk k ty ts l) s=.mk k ty (ts.map λx=>Tm.jX n x s) (l.map λx=>Fm.jX (n+qB k) x s):=by rw[Fm.jX,Fm.Kg]
def Fm.ji(t:Fm):∀a,t.acg a<=t.ab':=by
 induction t using Fm.ind with
 |h k s ts l b=>
  intro a;rw[Fm.gU,Fm.ef];have:=kR (f:=Fm.acg (a+qB k)) (g:=Fm.ab') (l:=l) λx c=>b x c _;have:=kR (f:=Tm.acg a) (g:=Tm.ab') (l:=ts) λx _=>x.ji _;omega
theorem Fm.rj(t:Fm):∀f b,(t.up f b).ab'=t.ab':=by
 induction t using Fm.ind with
 |h k s ts l a=>
  intro f b;rw[Fm.l7,Fm.ef,Fm.ef,qf,qf,rJ λx c=>a x c _ _,rJ λx _=>Tm.rj x f b]
theorem Fm.FJ(t:Fm):∀f b,(t.up f b).wt=t.wt:=by
 induction t using Fm.ind with
 |h k s ts l a=>
  intro f b;rw[Fm.l7,Fm.fP,Fm.fP,qf,qf,rJ λx c=>a x c _ _,rJ λx _=>Tm.FJ x f b]
theorem Fm.Jd(t:Fm):∀f b,0<=f->0<=b->(t.up f b).ok=t.ok:=by
 induction t using Fm.ind with
 |h k s ts l c=>
  intro f b d a;have:=A5 k;rw[Fm.l7,Fm.h_,Fm.h_,G9,G9,w6 λx e=>c x e (f+qB k) b (by omega) a,w6 λx _=>Tm.Jd x f b d a]
def Ls{α:Type}{a b c:α->Nat}{m:Nat}{l:List α}(h:∀x∈l,a x+b x=c x+b x*m):eE a l+eE b l=eE c l+eE b l*m:=by
 induction l with
 |nil=>simp[eE]|cons y l d=>
  have f:=h y (by simp);have g:=d λx e=>h x (by simp[e]);simp only[eE,AD];omega
def Fm.rT(s:Tm)(t:Fm):∀n,t.ok=true->(Fm.jX n t s).ab'+t.acg n=t.ab'+t.acg n*s.ab':=by
 induction t using Fm.ind with
 |h k ty ts l f=>
  intro n d;rw[Fm.h_] at d;simp only[gI,kF] at d;rw[Fm.ot,Fm.gU,Fm.ef,Fm.ef,qf,qf,AD];have g:=Ls (l:=ts) (a:=λx=>(Tm.jX n x s).ab') (b:=Tm.acg n) (c:=Tm.ab') (m:=s.ab') λx e=>Tm.rT s x n (d.1.2 x e);have i:=Ls (l:=l) (a:=λx=>(Fm.jX (n+qB k) x s).ab') (b:=Fm.acg (n+qB k)) (c:=Fm.ab') (m:=s.ab') λx e=>f x e _ (d.2 x e);omega
def BR{t:Tm}(m:Int)(h:t.ab'<=1000000000):k9 FU t m=some (t.ace m):=zZ FU t m (by rw[fy];exact h) h
def G4:∀(n:Nat) (t:Fm) (m:Int),t.ab'<=n->t.ab'<=1000000000->oO n t m=some (t.ace m):=by
 intro n
 induction n with
 |zero=>intro t m h;have:=t.eP;omega
 |succ n c=>
  intro t m h d;cases t with
  |mk k s ts l=>
   rw[Fm.ef] at h d;have g:=Fm.fF l;have e:=Tm.fF ts
   have f:fp (ρ:=Bool) (λ(_:Int) (x:Tm) (_:Unit)=>cv (k9 FU x m) λa=>if a=true then some (gj.next ())else some (gj.ret false)) ts 0 ()=if ts.all (Tm.ace m)=true then some (.inl ())else some (.inr false):=by
    refine rp (Tm.ace m) _ ts 0 ?_;intro j x b;have:=eI Tm.ab' b;rw[BR m (by omega)];rfl
   have k2:fp (ρ:=Bool) (λ(_:Int) (x:Fm) (_:Unit)=>cv (oO n x m) λa=>if a=true then some (gj.next ())else some (gj.ret false)) l 0 ()=if l.all (Fm.ace m)=true then some (.inl ())else some (.inr false):=by
    refine rp (Fm.ace m) _ l 0 ?_;intro j x b;have:=eI Fm.ab' b;rw[c x m (by omega) (by omega)];rfl
   rw[oO];simp only[Fm.eG,Fm.hJ,ez,eB (l:=l) (by omega),eB (l:=ts) (by omega),eo,f,k2,Fm.fo];cases i:ts.all (Tm.ace m)<;>cases o:l.all (Fm.ace m)<;>simp
def tX:∀(n:Nat) (t:Fm) (f b:Int),t.ab'<=n->t.ab'<=1000000000->0<=f->f+t.ab'<=10000000000->0<=b->b<=10000000000->t.ace 1000000000000=true->hB n t f b=some (t.up f b):=by
 intro n
 induction n with
 |zero=>intro t f b h;have:=t.eP;omega
 |succ n o=>
  intro t f b h d p e i a hi;cases t with
  |mk k s ts l=>
   rw[Fm.ef] at h d e;rw[Fm.fo] at hi;simp only[gI,kF] at hi;have r:=Fm.fF l;have q:=Tm.fF ts;have u:=A5 k;rw[hB];simp only[Fm.eG,Fm.hJ,Fm.eN,Fm.fw,ez,eB (l:=l) (by omega),eB (l:=ts) (by omega),eo];rw[jz (Tm.up f b) ts 0 [] (by simp;omega)]
   ·simp only[cl,ei];rw[jz (Fm.up (f+qB k) b) l 0 [] (by simp;omega)]
    ·simp[Fm.l7]
    ·intro j x v c g;have:=eI Fm.ab' c;rw[ou];simp only[cl,Fm.eN];rw[fq (by omega) (by omega),o x (f+qB k) b (by omega) (by omega) (by omega) (by omega) i a (hi.2 x c)];simp[fx (l:=v) (m:=[x.up (f+qB k) b]) (by simpa using g)]
   ·intro j x v c g;have:=eI Tm.ab' c;rw[zT FU x f b (by rw[fy];omega) (by omega) p (by omega) i a (hi.1 x c)];simp[fx (l:=v) (m:=[x.up f b]) (by simpa using g)]
def FV:∀(n:Nat) (t:Fm) (a:Int),t.ab'<=n->t.ab'<=1000000000->0<=a->a+t.ab'<=10000000000->oQ n t a=some (t.acg a:Int):=by
 intro n
 induction n with
 |zero=>intro t a h;have:=t.eP;omega
 |succ n g=>
  intro t a h c i d;cases t with
  |mk k s ts l=>
   rw[Fm.ef] at h c d;have q:=Fm.fF l;have m:=Tm.fF ts;have r:=A5 k;have o:eE (Fm.acg (a+qB k)) l<=eE Fm.ab' l:=kR λx _=>x.ji _;have f:eE (Tm.acg a) ts<=eE Tm.ab' ts:=kR λx _=>x.ji _;rw[oQ];simp only[Fm.eG,Fm.hJ,Fm.eN,ez,eB (l:=l) (by omega),eB (l:=ts) (by omega),eo]
   have p:=qe (ρ:=Int) (F:=λ(_:Int) (x:Tm) (v:Int)=>cv (mO FU x a) λy=>some (gj.next (fk .i64 v y))) (Tm.acg a) ts 0 0 (by omega) (by
    intro j x v e;have:=eI Tm.ab' e;rw[zO FU x a (by rw[fy];omega) (by omega) i (by omega)]
    rfl)
   have k2:=qe (ρ:=Int) (F:=λ(_:Int) (x:Fm) (v:Int)=>cv (k8 (Fm.mk k s ts l)) λb=>cv (oQ n x (fk .i64 a b)) λy=>some (gj.next (fk .i64 v y))) (Fm.acg (a+qB k)) l 0 (0+eE (Tm.acg a) ts) (by omega) (by
    intro j x v e;have:=eI Fm.ab' e;rw[ou];simp only[cl,Fm.eN];rw[fq (by omega) (by omega),g x _ (by omega) (by omega) (by omega) (by omega)]
    rfl)
   rw[show(0:Int)=((0:Nat):Int)from rfl,p];simp only[cl,ei];rw[k2];simp[Fm.gU]
def M4:∀(n:Nat) (t:Fm) (a b:Int) (s:Tm),t.ab'<=n->t.ab'<=1000000000->0<=a->0<=b->a+b+t.ab'<=5000000000->t.ace 1000000000000=true->t.ok=true->s.ab'<=1000000000->s.ace 1000000000000=true->vN n t a b s=some (Fm.jX (a+b) t s):=by
 intro n
 induction n with
 |zero=>intro t a b s h;have:=t.eP;omega
 |succ n p=>
  intro t a b s h f o q g hi c hs e;cases t with
  |mk k ty ts l=>
   rw[Fm.ef] at h f g;rw[Fm.fo] at hi;rw[Fm.h_] at c;simp only[gI,kF] at hi c;have u:=Fm.fF l;have r:=Tm.fF ts;have w:=A5 k;rw[vN];simp only[Fm.eG,Fm.hJ,Fm.eN,Fm.fw,ez,eB (l:=l) (by omega),eB (l:=ts) (by omega),eo];rw[jz (λx=>Tm.jX (a+b) x s) ts 0 [] (by simp;omega)]
   ·simp only[cl,ei];rw[jz (λx=>Fm.jX (a+b+qB k) x s) l 0 [] (by simp;omega)]
    ·simp[Fm.ot]
    ·intro j x v d i;have:=eI Fm.ab' d;rw[ou];simp only[cl,Fm.eN];rw[fq (by omega) (by omega),p x a (b+qB k) s (by omega) (by omega) o (by omega) (by omega) (hi.2 x d) (c.2 x d) hs e];rw[show a+(b+qB k)=a+b+qB k by omega];simp[fx (l:=v) (m:=[Fm.jX (a+b+qB k) x s]) (by simpa using i)]
   ·intro j x v d i;have:=eI Tm.ab' d;rw[Ek FU x a b s (by rw[fy];omega) (by omega) o q (by omega) (hi.1 x d) (c.1.2 x d) hs e];simp[fx (l:=v) (m:=[Tm.jX (a+b) x s]) (by simpa using i)]
def Fm.mg(t:Fm):∀{m n:Int},m<=n->t.ace m=true->t.ace n=true:=by
 induction t using Fm.ind with
 |h k s ts l c=>
  intro m n a h;rw[Fm.fo] at*;simp only[gI,kF] at*;exact⟨λx b=>Tm.mg x a (h.1 x b),λx b=>c x b a (h.2 x b)⟩
def k4.ace{g:List Ty}{f:Fm}(h:k4 g f):∀m:Int,((g.length+f.ab':Nat):Int)<=m->f.ace m=true:=by
 induction h with
 |eq c d=>
  intro m hm;simp only[Fm.ef,eE] at hm;simp only[Fm.fo,xc,Xk,AI,gI];exact⟨c.ace m (by omega),d.ace m (by omega)⟩
 |two _ _ _ a b=>
  intro m hm;simp only[Fm.ef,eE] at hm;simp only[Fm.fo,xc,Xk,AI,gI,AJ];exact⟨a m (by omega),b m (by omega)⟩
 |q _ _ _ e=>
  intro m hm;simp only[Fm.ef,eE] at hm;simp only[Fm.fo,xc,Xk,AI,AJ];exact e m (by simp;omega)
def Tm.Ii(φ:Int->Int->Tm)(b:Int):Tm->Tm
 |.mk k i s l=>if k=1 then φ i b else .mk k i s (l.attach.map λx=>Tm.Ii φ (b+gB k) x.1)
decreasing_by
 have:=S3 x.2;simp only[Tm.mk.sizeOf_spec];omega
def Tm.zS(φ:Int->Int->Tm)(b k i:Int)(s:Ty)(l:List Tm):(Tm.mk k i s l).Ii φ b=if k=1 then φ i b else .mk k i s (l.map (Tm.Ii φ (b+gB k))):=by
 rw[Tm.Ii]
 congr 2
 exact MF
def xD(k b:Int)(a:-1000000000000<=b)(c:b<=1000000000000):fU (eH k 2) (fk .i64 b 1) b=b+gB k:=by
 unfold gB
 by_cases h:k=2
 ·subst h;rw[show eH 2 2=true from rfl,ee rfl];exact fq (by omega) (by omega)
 ·rw[show eH k 2=false by simpa[eH] using h,ea h];show b=b+0;omega
def wq{h:Int->Int->Option Tm}{φ:Int->Int->Tm}{M:Int}(y:∀i b,0<=i->i<=M->0<=b->b<=10000000000->h i b=some (φ i b)):∀(n:Nat) (t:Tm) (b:Int),t.ab'<=n->t.ab'<=50000000->t.ok=true->t.ace M=true->0<=b->b+t.ab'<=10000000000->ia n t b (λ(s:Unit) (g:Int) (m:Int)=>q_ (h g m) s) ()=some (t.Ii φ b,()):=by
 intro n
 induction n with
 |zero=>intro t b h;have:=t.eP;omega
 |succ n z=>
  intro t b hn A o p B q;cases t with
  |mk k i s l=>
   rw[Tm.ef] at hn A q;have hlen:=Tm.fF l;have e:=o;rw[Tm.h_,gI] at o;have C:=Ty.wY o.1;rw[Tm.fo,gI,OI,kF] at p;rw[ia,Tm.zS]
   by_cases r:k=1
   ·subst r;have hi:=(Tm.l_ e).2.1;rw[ee (by rfl),ee rfl];simp only[Tm.gx];rw[y i b hi p.1 B (by omega),EA,eb]
   ·rw[ea (by simpa[eH] using r),ea r];simp only[Tm.fw,Tm.eG,Tm.eN,Tm.gx,ez];rw[pK (by omega),cl,eB (by omega),eo,xD k b (by omega) (by omega)];have D:=lH k
    have loop:∀(ts:List Tm) (j:Nat) (v:List Tm),(∀t∈ts,t∈l)->v.length+ts.length<=50000000->fp (λ(E:Int) (w:Tm)=>(uv λ(a:List Tm) (v107:Unit)=>
       ek (ia n w (b+gB k) (λ(s:Unit) (g:Int) (m:Int)=>q_ (h g m) s) v107) λc f=>
       gS (gr a [c])<|some ((.next ((gG a [c]),f)):gj ((List Tm)×Unit) (Tm×Unit)))) ts j (v,())=some (.inl (v++ts.map (Tm.Ii φ (b+gB k)),())):=by
     intro ts
     induction ts with
     |nil=>intro j v _ _;simp|cons t ts x=>
      intro j v hm F;simp only[ld] at F;have d:=hm t (by simp);have G:=eI Tm.ab' d;rw[fl];simp only[uv];rw[z t (b+gB k) (by omega) (by omega) ((Tm.l_ e).2.2.2.1 t d) (p.2 t d) (by omega) (by omega),eb,fx (by simp;omega),eo];simp only[cl,ft];rw[gY];have:=x (j+1) (v++[t.Ii φ (b+gB k)]) (λu hu=>hm u (by simp[hu])) (by simp;omega);rw[this];simp
    rw[loop l 0 [] (λt h=>h) (by simp;omega),cl];simp
structure Bd (t:Tm):Prop where
 ok:t.ok=true
 ace:t.ace 1000000000000=true
 ab':t.ab'<=50000000
def Tm.NC(f c:Int)(n:0<=f):∀(t:Tm) (b:Int),0<=b->t.ok=true->t.Ii (λi b=>.mk 1 (if f<=i-b then i+c else i) (.mk 0 []) []) b=t.up (f+b) c:=by
 intro t
 induction t using Tm.ind with
 |h k i s l g=>
  intro b o a;have hi:=Tm.l_ a;rw[Tm.zS,Tm.l7]
  by_cases d:k=1
  ·subst d;rw[ee rfl]
   have j:l=[]:=by
    have:=hi.2.2.2.2;unfold iM at this;rw[ee (.inl rfl)] at this;exact CW (by omega)
   have hs:s=.mk 0 []:=by
    rw[Tm.h_] at a;simp only[Tm.node,gI] at a;have:=a.1.2;rw[ea (by decide)] at this;exact(Ty.mQ s).1 this
   subst j;subst hs;simp only[Nc,aaq]
   congr 1
   by_cases h:f+b<=i
   ·rw[ee h,ee (by omega)]
   ·rw[ea h,ea (by omega)]
  ·rw[ea d,ea (λh=>d h.1)];have m:=lH k
   congr 1
   exact xV λx e=>by rw[g x e (b+gB k) (by omega) (hi.2.2.2.1 x e),show f+(b+gB k)=f+b+gB k by omega]
def CL{t:Tm}{f c:Int}(h:Bd t)(d:0<=f)(e:f<=10000000000)(m:0<=c)(g:c<=10000000000):rY t f c=some (t.up f c):=by
 unfold rY oU;rw[wq (h:=λj k=>tV j k f c) (φ:=λi b=>.mk 1 (if f<=i-b then i+c else i) (.mk 0 []) []) (M:=1000000000000) (λi b n o p q=>?_) FU t 0 (by have:=fy;have:=h.ab';omega) h.ab' h.ok h.ace (by omega) (by have:=h.ab';omega)]
 ·rw[eb,eb,Tm.NC f c d t 0 (by omega) h.ok,show f+0=f by omega]
 ·unfold tV iN;simp only[cl];rw[fH (by omega) (by omega),fq (by omega) (by omega)]
  by_cases a:f<=i-b
  ·rw[ee a,show sN (i-b) f=true by rw[iU];exact a];rfl
  ·rw[ea a,show sN (i-b) f=false by
    cases l:sN (i-b) f with
    |false=>rfl|true=>exact absurd ((iU _ _).1 l) a];rfl
def oW(k:Int):nA k=some (kQ k):=by
 unfold nA kQ;rw[ru];simp only[sN,MV,s7];rw[<-Bool.decide_and];exact B5.2 (by simp only[OI];omega)
def Fm.rm{k:Int}{s:Ty}{ts:List Tm}{l:List Fm}(h:(Fm.mk k s ts l).ok=true):s.ab'<=64/\(∀t∈ts,t.ok=true)/\(∀f∈l,f.ok=true):=by
 rw[Fm.h_] at h;simp only[gI,kF] at h;refine⟨?_,h.1.2,h.2⟩;have hn:=h.1.1;unfold Fm.node at hn
 split at hn
 ·simp only[gI] at hn;rw[(Ty.mQ s).1 hn.1.1,Ty.ef];simp[eE]
 ·split at hn
  ·simp only[gI] at hn;rw[(Ty.mQ s).1 hn.1.1,Ty.ef];simp[eE]
  ·simp only[gI,nq] at hn;exact fC hn.1.1.2
def Fm.Ii(ψ:Tm->Int->Tm)(b:Int):Fm->Fm
 |.mk k s ts l=>.mk k s (ts.map λt=>ψ t b) (l.attach.map λx=>Fm.Ii ψ (b+qB k) x.1)
decreasing_by
 have:=S3 x.2;simp only[Fm.mk.sizeOf_spec];omega
def Fm.zS(ψ:Tm->Int->Tm)(b k:Int)(s:Ty)(ts:List Tm)(l:List Fm):(Fm.mk k s ts l).Ii ψ b=.mk k s (ts.map λt=>ψ t b) (l.map (Fm.Ii ψ (b+qB k))):=by
 rw[Fm.Ii]
 congr 1
 exact MF
def pg{h:Tm->Int->Option Tm}{ψ:Tm->Int->Tm}(J:∀t b,Bd t->0<=b->b<=1000000000->h t b=some (ψ t b)):∀(n:Nat) (f:Fm) (b:Int),f.ab'<=n->f.ab'<=50000000->f.ok=true->f.ace 1000000000000=true->0<=b->b+f.ab'<=1000000000->fv n f b (λ(s:Unit) (q:Tm) (w:Int)=>q_ (h q w) s) ()=some (f.Ii ψ b,()):=by
 intro n
 induction n with
 |zero=>intro f b h;have:=f.eP;omega
 |succ n K=>
  intro f b hn L M A N B;cases f with
  |mk k s ts l=>
   rw[Fm.ef] at hn L B;have O:=ic Tm.ab' ts λt _=>t.eP;have P:=ic Fm.ab' l λt _=>t.eP;obtain⟨Q,C,D⟩:=Fm.rm M;rw[Fm.fo,gI,kF,kF] at A;rw[fv,Fm.zS];simp only[Fm.fw,Fm.eG,Fm.eN,Fm.hJ,ez];rw[pK (by omega),cl,eB (by omega),eo];have R:=A5 k
   have m:∀(us:List Tm) (j:Nat) (v:List Tm),(∀t∈us,t∈ts)->v.length+us.length<=50000000->fp (λ(S:Int) (E:Tm)=>(uv λ(v91:List Tm) (F:Unit)=>
      ek (q_ (h E b) F) λi x=>
      gS (gr v91 [i])<|some ((.next ((gG v91 [i]),x)):gj ((List Tm)×Unit) (Fm×Unit)))) us j (v,())=some (.inl (v++us.map (λt=>ψ t b),())):=by
    intro us
    induction us with
    |nil=>intro j v _ _;simp|cons t us o=>
     intro j v hm G;simp only[ld] at G;have d:=hm t (by simp);have H:=eI Tm.ab' d;rw[fl];simp only[uv];rw[J t b ⟨C t d,A.1 t d,by omega⟩ N (by omega),EA,eb,fx (by simp;omega),eo];simp only[cl,ft];rw[gY];have:=o (j+1) (v++[ψ t b]) (λu hu=>hm u (by simp[hu])) (by simp;omega);rw[this];simp
   rw[m ts 0 [] (λt h=>h) (by simp;omega),cl];simp only[ei,uv];rw[oW,cl]
   have p:∀(us:List Fm) (j:Nat) (v:List Fm),(∀t∈us,t∈l)->v.length+us.length<=50000000->fp (λ(y:Int) (e:Fm)=>(uv λ(a:List Fm) (v212:Unit)=>
      ek (fv n e (b+qB k) (λ(s:Unit) (q:Tm) (w:Int)=>q_ (h q w) s) v212) λc g=>
      gS (gr a [c])<|some ((.next ((gG a [c]),g)):gj ((List Fm)×Unit) (Fm×Unit)))) us j (v,())=some (.inl (v++us.map (Fm.Ii ψ (b+qB k)),())):=by
    intro us
    induction us with
    |nil=>intro j v _ _;simp|cons t us o=>
     intro j v hm G;simp only[ld] at G;have d:=hm t (by simp);have H:=eI Fm.ab' d;rw[fl];simp only[uv];rw[K t (b+qB k) (by omega) (by omega) (D t d) (A.2 t d) (by omega) (by omega),eb,fx (by simp;omega),eo];simp only[cl,ft];rw[gY];have:=o (j+1) (v++[t.Ii ψ (b+qB k)]) (λu hu=>hm u (by simp[hu])) (by simp;omega);rw[this];simp
   have fin:(gS (fm l)<|cv (fp (λ(y:Int) (e:Fm)=>(uv λ(a:List Fm) (v212:Unit)=>
      ek (fv n e (b+qB k) (λ(s:Unit) (q:Tm) (w:Int)=>q_ (h q w) s) v212) λc g=>
      gS (gr a [c])<|some ((.next ((gG a [c]),g)):gj ((List Fm)×Unit) (Fm×Unit)))) l 0 ([],())) (gd (uv λ(a:List Fm) (v212:Unit)=>some ((Fm.mk k s ([]++ts.map λt=>ψ t b) a),v212)) (λr=>some r)))=some (Fm.mk k s (ts.map λt=>ψ t b) (l.map (Fm.Ii ψ (b+qB k))),()):=by
    rw[eB (by omega),eo,p l 0 [] (λt h=>h) (by simp;omega),cl];simp
   by_cases z:kQ k=true
   ·rw[ee z]
    have I:b+qB k=b+1:=by unfold qB;rw[ee z]
    rw[I] at fin|-;rw[fq (by omega) (by omega)];exact fin
   ·rw[ea z]
    have I:b+qB k=b:=by unfold qB;rw[ea z];omega
    rw[I] at fin|-;exact fin
def Fm.NC(f c:Int):∀(g:Fm) (b:Int),g.Ii (λt b=>t.up (f+b) c) b=g.up (f+b) c:=by
 intro g
 induction g using Fm.ind with
 |h k s ts l a=>
  intro b;rw[Fm.zS,Fm.l7]
  congr 1
  exact xV λx d=>by rw[a x d (b+qB k),show f+(b+qB k)=f+b+qB k by omega]
def uo{g:Fm}{f c:Int}(d:g.ok=true)(hn:g.ab'<=50000000)(e:g.ace 1000000000000=true)(m:0<=f)(i:f<=1000000000)(j:0<=c)(a:c<=10000000000):fS g f c=some (g.up f c):=by
 unfold fS;rw[pg (h:=λk l=>m5 k l f c) (ψ:=λt b=>t.up (f+b) c) (λt b h n o=>?_) FU g 0 (by have:=fy;omega) hn d e (by omega) (by omega)]
 ·rw[eb,Fm.NC f c g 0,show f+0=f by omega]
 ·unfold m5;rw[fq (by omega) (by omega),CL h (by omega) (by omega) j a];rfl
def Tm.Sc{i:Int}{s:Ty}{l:List Tm}(a:(Tm.mk 1 i s l).ok=true):l=[]/\s=.mk 0 []:=by
 have hi:=Tm.l_ a;constructor
 ·have:=hi.2.2.2.2;unfold iM at this;rw[ee (.inl rfl)] at this;exact CW (by omega)
 ·rw[Tm.h_] at a;simp only[Tm.node,gI] at a;have:=a.1.2;rw[ea (by decide)] at this;exact(Ty.mQ s).1 this
def NW(a:Int)(s:Tm)(i b:Int):Tm:=if i-b=a then s.up 0 (a+b)else if a<i-b then .mk 1 (i-1) (.mk 0 []) [] else .mk 1 i (.mk 0 []) []
def Tm.KZ(a:Int)(s:Tm):∀(t:Tm) (b:Int),t.ok=true->t.Ii (NW a s) b=Tm.jX (a+b) t s:=by
 intro t
 induction t using Tm.ind with
 |h k i ty l j=>
  intro b d;have hi:=Tm.l_ d;rw[Tm.zS,Tm.ot]
  by_cases c:k=1
  ·subst c;obtain⟨rfl,rfl⟩:=Tm.Sc d;rw[ee rfl,ee rfl];unfold NW Tm.vy
   by_cases e:i-b=a
   ·rw[ee e,ee (by omega)]
   ·rw[ea e,ea (show¬i=a+b by omega)]
    by_cases f:a<i-b
    ·rw[ee f,ee (by omega)]
    ·rw[ea f,ea (by omega)]
  ·rw[ea c,ea c]
   congr 1
   exact xV λx g=>by rw[j x g (b+gB k) (hi.2.2.2.1 x g),show a+(b+gB k)=a+b+gB k by omega]
def Gs(s:Tm):Prop:=∀c,0<=c->c<=10000000000->rY s 0 c=some (s.up 0 c)
def Bd.lift{s:Tm}(h:Bd s):Gs s:=λc a b=>CL h (by omega) (by omega) a b
def LS{t s:Tm}{a:Int}(h:Bd t)(hs:Gs s)(K:0<=a)(D:a<=1000000000):zY t a s=some (Tm.jX a t s):=by
 unfold zY oU;have hn:=h.ab'
 have key:∀(n:Nat) (t:Tm) (b:Int),t.ab'<=n->t.ab'<=50000000->t.ok=true->t.ace 1000000000000=true->0<=b->b+t.ab'<=1000000000->ia n t b (λ(f:Unit) (m:Int) (g:Int)=>q_ (pj m g a s) f) ()=ia n t b (λ(f:Unit) (m:Int) (g:Int)=>q_ (if g<=1000000000 then pj m g a s else some (NW a s m g)) f) ():=by
  intro n
  induction n with
  |zero=>intro t b h;have:=t.eP;omega
  |succ n E=>
   intro t b hn r F C G y;cases t with
   |mk k i ty l=>
    rw[Tm.ef] at hn r y;rw[Tm.fo,gI,OI,kF] at C;have hi:=Tm.l_ F;have H:=lH k;rw[ia,ia]
    by_cases z:k=1
    ·subst z;rw[ee (by rfl),ee (by rfl),ee (by omega)]
    ·rw[ea (by simpa[eH] using z),ea (by simpa[eH] using z)];simp only[Tm.fw,Tm.eG,Tm.eN,Tm.gx,ez];rw[xD k b (by omega) (by omega)]
     have loop:∀(ts:List Tm) (j:Nat) (v:List Tm),(∀t∈ts,t∈l)->fp (λ(A:Int) (p:Tm)=>(uv λ(d:List Tm) (v107:Unit)=>
        ek (ia n p (b+gB k) (λ(f:Unit) (m:Int) (g:Int)=>q_ (pj m g a s) f) v107) λe o=>
        gS (gr d [e])<|some ((.next ((gG d [e]),o)):gj ((List Tm)×Unit) (Tm×Unit)))) ts j (v,())=fp (λ(A:Int) (p:Tm)=>(uv λ(d:List Tm) (v107:Unit)=>
        ek (ia n p (b+gB k) (λ(f:Unit) (m:Int) (g:Int)=>q_ (if g<=1000000000 then pj m g a s else some (NW a s m g)) f) v107) λe o=>
        gS (gr d [e])<|some ((.next ((gG d [e]),o)):gj ((List Tm)×Unit) (Tm×Unit)))) ts j (v,()):=by
      intro ts
      induction ts with
      |nil=>intro j v _;rfl|cons t ts B=>
       intro j v hm;have q:=hm t (by simp);have I:=eI Tm.ab' q;rw[fl,fl];simp only[uv];rw[E t (b+gB k) (by omega) (by omega) (hi.2.2.2.1 t q) (C.2 t q) (by omega) (by omega)]
       congr 1
       funext c
       cases c with
       |next st=>
        obtain⟨J,u⟩:=st;exact B (j+1) J (λu hu=>hm u (by simp[hu]))
       |_=>rfl
     rw[loop l 0 [] (λt h=>h)]
 rw[key FU t 0 (by have:=fy;omega) hn h.ok h.ace (by omega) (by omega)];rw[wq (h:=λm g=>if g<=1000000000 then pj m g a s else some (NW a s m g)) (φ:=NW a s) (M:=1000000000000) (λi b G L N O=>?_) FU t 0 (by have:=fy;omega) h.ab' h.ok h.ace (by omega) (by omega)]
 ·rw[eb,eb,Tm.KZ a s t 0 h.ok,show a+0=a by omega]
 ·by_cases r:b<=1000000000
  ·rw[ee r];unfold pj iN NW;rw[fH (by omega) (by omega),fq (by omega) (by omega)]
   by_cases w:i-b=a
   ·rw[ee (by simpa[eH] using w),ee w,hs _ (by omega) (by omega)];rfl
   ·rw[ea (by simpa[eH] using w),ea w]
    by_cases x:a<i-b
    ·rw[ee (by rw[gA];exact x),ee x,fH (by omega) (by omega)];rfl
    ·rw[ea (by rw[gA];exact x),ea x];rfl
  ·rw[ea r]
def Fm.KZ(a:Int)(s:Tm):∀(g:Fm) (b:Int),g.Ii (λt b=>Tm.jX (a+b) t s) b=Fm.jX (a+b) g s:=by
 intro g
 induction g using Fm.ind with
 |h k ty ts l c=>
  intro b;rw[Fm.zS,Fm.ot]
  congr 1
  exact xV λx d=>by rw[c x d (b+qB k),show a+(b+qB k)=a+b+qB k by omega]
def vi{g:Fm}{s:Tm}{a:Int}(B:g.ok=true)(hn:g.ab'<=50000000)(I:g.ace 1000000000000=true)(hs:Gs s)(P:0<=a)(J:a<=100000000):k7 g a s=some (Fm.jX a g s):=by
 unfold k7
 have key:∀(n:Nat) (f:Fm) (b:Int),f.ab'<=n->f.ab'<=50000000->f.ok=true->0<=b->b+f.ab'<=100000000->fv n f b (λ(i:Unit) (p:Tm) (m:Int)=>q_ (jv p m a s) i) ()=fv n f b (λ(i:Unit) (p:Tm) (m:Int)=>q_ (if m<=100000000 then jv p m a s else some (Tm.jX (a+m) p s)) i) ():=by
  intro n
  induction n with
  |zero=>intro f b h;have:=f.eP;omega
  |succ n K=>
   intro f b hn C B L E;cases f with
   |mk k ty ts l=>
    rw[Fm.ef] at hn C E;obtain⟨_,_,F⟩:=Fm.rm B;have M:=A5 k;rw[fv,fv];simp only[Fm.fw,Fm.eG,Fm.eN,Fm.hJ,ez,ee (show b<=100000000 by omega),oW,cl]
    have loop:∀(us:List Fm) (j:Nat) (v:List Fm) (x:Int),0<=x->x+eE Fm.ab' l<=100000000->(∀t∈us,t∈l)->fp (λ(y:Int) (q:Fm)=>(uv λ(d:List Fm) (v212:Unit)=>
       ek (fv n q x (λ(i:Unit) (p:Tm) (m:Int)=>q_ (jv p m a s) i) v212) λe w=>
       gS (gr d [e])<|some ((.next ((gG d [e]),w)):gj ((List Fm)×Unit) (Fm×Unit)))) us j (v,())=fp (λ(y:Int) (q:Fm)=>(uv λ(d:List Fm) (v212:Unit)=>
       ek (fv n q x (λ(i:Unit) (p:Tm) (m:Int)=>q_ (if m<=100000000 then jv p m a s else some (Tm.jX (a+m) p s)) i) v212) λe w=>
       gS (gr d [e])<|some ((.next ((gG d [e]),w)):gj ((List Fm)×Unit) (Fm×Unit)))) us j (v,()):=by
     intro us
     induction us with
     |nil=>intro j v x _ _ _;rfl|cons t us G=>
      intro j v x z H hm;have A:=hm t (by simp);have N:=eI Fm.ab' A;rw[fl,fl];simp only[uv];rw[K t x (by omega) (by omega) (F t A) z (by omega)]
      congr 1
      funext c
      cases c with
      |next st=>
       obtain⟨O,u⟩:=st;exact G (j+1) O x z H (λu hu=>hm u (by simp[hu]))
      |_=>rfl
    congr 1
    funext Q
    congr 1
    congr 1
    funext o
    cases o with
    |inr r=>rfl|inl st=>
     obtain⟨v,u⟩:=st;simp only[ei,uv]
     by_cases D:kQ k=true
     ·rw[ee D,ee D,fq (by omega) (by omega)];rw[show(([]:List Fm),u)=([],())from rfl,loop l 0 [] (b+1) (by omega) (by omega) (λt h=>h)]
     ·rw[ea D,ea D];rw[show(([]:List Fm),u)=([],())from rfl,loop l 0 [] b (by omega) (by omega) (λt h=>h)]
 rw[key FU g 0 (by have:=fy;omega) hn B (by omega) (by omega)];rw[pg (h:=λp m=>if m<=100000000 then jv p m a s else some (Tm.jX (a+m) p s)) (ψ:=λt b=>Tm.jX (a+b) t s) (λt b h L R=>?_) FU g 0 (by have:=fy;omega) hn B I (by omega) (by omega)]
 ·rw[eb,Fm.KZ a s g 0,show a+0=a by omega]
 ·by_cases C:b<=100000000
  ·rw[ee C];unfold jv;rw[fq (by omega) (by omega),LS h hs (by omega) (by omega)];rfl
  ·rw[ea C]
def Fs{a i b c:Int}(d:-1000000000000000<=i)(e:i<=1000000000000000)(f:0<=b)(g:b<=10000000000)(j:0<=c)(k:c<=10000000000):pe i b a c=some (c+if i-b=a then 1 else 0):=by
 unfold pe;rw[fH (by omega) (by omega)]
 by_cases h:i-b=a
 ·rw[ee (by simpa[eH] using h),ee h,fq (by omega) (by omega)]
 ·rw[ea (by simpa[eH] using h),ea h,yA]
def E3(a:Int):∀(n:Nat) (t:Tm) (b c:Int),t.ab'<=n->t.ab'<=50000000->t.ok=true->t.ace 1000000000000=true->0<=b->b+t.ab'<=1000000000->0<=c->c+t.ab'<=1000000000->jV n t b (λ(s:Int) (f:Int) (g:Int)=>pe f g a s) c=some (c+(t.acg (a+b):Int)):=by
 intro n
 induction n with
 |zero=>intro t b c h;have:=t.eP;omega
 |succ n y=>
  intro t b c hn z A w B m x C;cases t with
  |mk k i s l=>
   rw[Tm.ef] at hn z m C;have hlen:=Tm.fF l;have hi:=Tm.l_ A;rw[Tm.fo,gI,OI,kF] at w;have D:=lH k;rw[jV,Tm.gU];simp only[ez]
   have loop:∀(ts:List Tm) (j:Nat) (v:Int),(∀t∈ts,t∈l)->0<=v->v+eE Tm.ab' ts<=1000000000->fp (λ(E:Int) (o:Tm)=>(λ(v28:Int)=>
      cv (jV n o (b+gB k) (λ(s:Int) (f:Int) (g:Int)=>pe f g a s) v28) λp=>
      some ((.next p):gj Int Int))) ts j v=some (.inl (v+(eE (Tm.acg (a+b+gB k)) ts:Int))):=by
    intro ts
    induction ts with
    |nil=>intro j v _ _ _;simp[eE]|cons t ts q=>
     intro j v hm v0 v1;simp only[eE] at v1|-;have d:=hm t (by simp);have F:=eI Tm.ab' d;have G:=t.ji (a+b+gB k);rw[fl,y t (b+gB k) v (by omega) (by omega) (hi.2.2.2.1 t d) (w.2 t d) (by omega) (by omega) v0 (by omega),show a+(b+gB k)=a+b+gB k by omega];simp only[cl,ft];rw[q (j+1) _ (λu hu=>hm u (by simp[hu])) (by omega) (by omega)]
     congr 2
     push_cast
     omega
   by_cases r:k=1
   ·subst r;rw[ee (show eH (Tm.mk 1 i s l).ab9 1=true from rfl)];simp only[Tm.eG,Tm.eN,Tm.gx];rw[Fs (by omega) (by omega) B (by omega) x (by omega),cl,xD 1 b (by omega) (by omega),eB (by omega),eo];rw[loop l 0 _ (λt h=>h) (by split<;>omega) (by split<;>omega)];simp only[cl,ei]
    congr 1
    by_cases e:i-b=a
    ·rw[ee e,ee (show True/\i=a+b from⟨trivial,by omega⟩)];omega
    ·rw[ea e,ea (show¬(True/\i=a+b)fromλh=>e (by omega))];omega
   ·rw[ea (show¬eH (Tm.mk k i s l).ab9 1=true by simpa[eH] using r),ea (show¬(k=1/\i=a+b)fromλh=>r h.1)];simp only[Tm.eG,Tm.eN,Tm.gx];rw[xD k b (by omega) (by omega),eB (by omega),eo];rw[loop l 0 c (λt h=>h) x (by omega)];simp only[cl,ei]
    congr 1
    push_cast
    omega
def A9{t:Tm}(a:Int)(h:Bd t):sW t a=some (t.acg a:Int):=by
 unfold sW rO;have hn:=h.ab';rw[E3 a FU t 0 0 (by have:=fy;omega) hn h.ok h.ace (by omega) (by omega) (by omega) (by omega)];simp only[cl];rw[show a+0=a by omega,Int.zero_add]
def AG{a:Int}(U:0<=a)(H:a<=100000000):∀(n:Nat) (f:Fm) (b c:Int),f.ab'<=n->f.ab'<=50000000->f.ok=true->f.ace 1000000000000=true->0<=b->b+f.ab'<=100000000->0<=c->c+f.ab'<=1000000000->mH n f b (λ(s:Int) (p:Tm) (q:Int)=>jQ p q s a) c=some (c+(f.acg (a+b):Int)):=by
 intro n
 induction n with
 |zero=>intro f b c h;have:=f.eP;omega
 |succ n I=>
  intro f b c hn J K r V w L M;cases f with
  |mk k s ts l=>
   rw[Fm.ef] at hn J w M;have N:=ic Tm.ab' ts λt _=>t.eP;have O:=ic Fm.ab' l λt _=>t.eP;obtain⟨_,y,z⟩:=Fm.rm K;rw[Fm.fo,gI,kF,kF] at r;have P:=A5 k;rw[mH,Fm.gU];simp only[Fm.eG,Fm.eN,Fm.hJ,ez];rw[eB (by omega),eo]
   have i:∀(us:List Tm) (j:Nat) (v:Int),(∀t∈us,t∈ts)->0<=v->v+eE Tm.ab' us<=1000000000->fp (λ(Q:Int) (A:Tm)=>(λ(B:Int)=>
      cv (jQ A b B a) λC=>
      some ((.next C):gj Int Int))) us j v=some (.inl (v+(eE (Tm.acg (a+b)) us:Int))):=by
    intro us
    induction us with
    |nil=>intro j v _ _ _;simp[eE]|cons t us e=>
     intro j v hm v0 v1;simp only[eE] at v1|-;have d:=hm t (by simp);have D:=eI Tm.ab' d;have R:=t.ji (a+b);rw[fl];unfold jQ at e|-;rw[fq (a:=a) (by omega) (by omega),A9 (a+b) ⟨y t d,r.1 t d,by omega⟩];simp only[cl,ft];rw[fq (by omega) (by omega)];have:=e (j+1) (v+(t.acg (a+b):Int)) (λu hu=>hm u (by simp[hu])) (by omega) (by omega);rw[fq (a:=a) (by omega) (by omega)] at this;rw[this]
     congr 2
     push_cast
     omega
   rw[i ts 0 c (λt h=>h) L (by omega)];have S:=kR (f:=Tm.acg (a+b)) (g:=Tm.ab') (l:=ts) λx _=>x.ji _;simp only[cl,ei];rw[oW,cl]
   have m:∀(us:List Fm) (j:Nat) (v:Int),(∀t∈us,t∈l)->0<=v->v+eE Fm.ab' us<=1000000000->fp (λ(T:Int) (E:Fm)=>(λ(v72:Int)=>
      cv (mH n E (b+qB k) (λ(s:Int) (p:Tm) (q:Int)=>jQ p q s a) v72) λF=>
      some ((.next F):gj Int Int))) us j v=some (.inl (v+(eE (Fm.acg (a+b+qB k)) us:Int))):=by
    intro us
    induction us with
    |nil=>intro j v _ _ _;simp[eE]|cons t us e=>
     intro j v hm v0 v1;simp only[eE] at v1|-;have d:=hm t (by simp);have D:=eI Fm.ab' d;have R:=t.ji (a+b+qB k);rw[fl,I t (b+qB k) v (by omega) (by omega) (z t d) (r.2 t d) (by omega) (by omega) v0 (by omega),show a+(b+qB k)=a+b+qB k by omega];simp only[cl,ft];rw[e (j+1) _ (λu hu=>hm u (by simp[hu])) (by omega) (by omega)]
     congr 2
     push_cast
     omega
   have fin:=m l 0 (c+(eE (Tm.acg (a+b)) ts:Int)) (λt h=>h) (by omega) (by omega)
   by_cases o:kQ k=true
   ·rw[ee o]
    have G:qB k=1:=by unfold qB;rw[ee o]
    rw[G] at fin|-;rw[fq (by omega) (by omega),eB (by omega),eo,fin];simp only[cl,ei]
    congr 1
    push_cast
    omega
   ·rw[ea o]
    have G:qB k=0:=by unfold qB;rw[ea o]
    rw[G] at fin|-;rw[yA b] at fin;rw[eB (by omega),eo,fin];simp only[cl,ei]
    congr 1
    push_cast
    omega
def qb{f:Fm}{a:Int}(c:f.ok=true)(hn:f.ab'<=50000000)(d:f.ace 1000000000000=true)(e:0<=a)(b:a<=100000000):kN f a=some (f.acg a:Int):=by
 unfold kN;rw[AG e b FU f 0 0 (by have:=fy;omega) hn c d (by omega) (by omega) (by omega) (by omega)];simp only[cl];rw[show a+0=a by omega,Int.zero_add]
noncomputable def oe (f:Fm) (t:Tm):Fm×Int:=if 4096<(Fm.jX 0 f t).ab' then(.mk 0 (.mk 0 []) [] [],4)else(Fm.jX 0 f t,0)
noncomputable def EY (f:Fm) (g:List Ty):Int:=if w_ g≠0 then w_ g else if f.err≠0 then f.err else f.vw g
def iR.of{g:List Ty}(h:w_ g=0):iR g/\g.length<=16:=by
 unfold w_ at h
 split at h
 ·cases h
 ·rename_i d;refine⟨λs hs=>?_,by omega⟩
  have key:∀l:List Ty,fX (l.map Ty.err)=0->∀s∈l,s.err=0:=by
   intro l
   induction l with
   |nil=>intro _ s hs;cases hs
   |cons a l c=>
    intro h s hs;simp only[Aw,fX] at h
    by_cases b:a.err=0
    ·rw[ee b] at h;rcases ma.1 hs with rfl|hs
     ·exact b
     ·exact c h s hs
    ·rw[ea b] at h;exact absurd h b
  exact key g h s hs
def vo{g:List Ty}(hg:iR g)(c:g.length<=1000000):oL g=some (g.map ti):=by
 unfold oL;simp only[ez]
 rw[eB (by omega),eo,jz ti g 0 [] (by simp;omega) (λj x v a b=>by
  rw[lI (hg x a),cl,fx (by simpa using b),eo,gY])]
 simp
def sZ{f:Fm}{g:List Ty}(hw:f.wt<=1000000000)(c:g.length<=1000000)(h:∀t∈g,t.ab'<=1000000000):mJ g f=some (EY f g):=by
 unfold mJ EY;rw[xL g c h,cl]
 by_cases a:w_ g=0
 ·rw[ea (by rw[ey];simpa using a),ea (by simpa using a),lp hw,cl]
  by_cases he:f.err=0
  ·obtain⟨hg,d⟩:=iR.of a;obtain⟨b,hn⟩:=Fm.hV he;rw[ea (by rw[ey];simpa using he),ea (by simpa using he),vo hg c,cl,wh f b FU (by have:=fy;omega) g hg (by omega) hn];rfl
  ·rw[ee (by rw[ey];exact he),ee he]
 ·rw[ee (by rw[ey];exact a),ee a]
def sj{f:Fm}{g:List Ty}(hw:f.wt<=1000000000)(c:g.length<=1000000)(h:∀t∈g,t.ab'<=1000000000):jR g f=some (EY f g):=by
 unfold jR k6 EY;rw[td g c h,cl]
 by_cases a:w_ g=0
 ·rw[ea (by rw[ey];simpa using a),ea (by simpa using a),m6 hw,cl]
  by_cases he:f.err=0
  ·obtain⟨hg,d⟩:=iR.of a;obtain⟨b,hn⟩:=Fm.hV he;rw[ea (by rw[ey];simpa using he),ea (by simpa using he),zD f b FU (by have:=fy;omega) g hg (by omega) hn];rfl
  ·rw[ee (by rw[ey];exact he),ee he];rfl
 ·rw[ee (by rw[ey];exact a),ee a]
def H0{f:Fm}{t:Tm}(he:f.err=0)(b:t.err=0)(g:f.ace 1000000000000=true)(d:t.ace 1000000000000=true):jl f t=some (oe f t):=by
 obtain⟨a,hn⟩:=Fm.hV he;obtain⟨c,e⟩:=Tm.hV b;have hw:=f.jF a;have j:=t.jF c;have n:=t.eP;have k:=f.ji 0;have l:=Fm.rT t f 0 a;unfold jl oe;rw[qh (by omega),eb,so (by omega),eb,qb a (by omega) g (by omega) (by omega),cl,ee he,ee b];rw[fH (by omega) (by omega)]
 have hmul:(f.acg 0:Int)*((t.ab':Int)-1)=((f.acg 0*t.ab':Nat):Int)-(f.acg 0:Int):=by rw[Zc,XJ];push_cast;rfl
 have m:f.acg 0*t.ab'<=4096*4096:=T1 (by omega) e;have h:f.acg 0<=f.acg 0*t.ab':=R7 _ (by omega);rw[yG (by rw[hmul];omega) (by rw[hmul];omega),hmul,fq (by omega) (by omega)]
 by_cases i:4096<(Fm.jX 0 f t).ab'
 ·rw[ee (by rw[gA];omega),ee i]
 ·rw[ea (by rw[gA];omega),ea i,vi a (by omega) g (Bd.lift ⟨c,d,by omega⟩) (by omega) (by omega)];rfl
def Hp{f:Fm}{s:Tm}(he:f.err=0)(b:s.err=0)(h:f.ace 536870912=true)(c:s.ace 536870912=true)(d:(Fm.jX 0 f s).ok=true):xf f 0 s=some (oe f s):=by
 obtain⟨a,hn⟩:=Fm.hV he;obtain⟨e,g⟩:=Tm.hV b;have hw:=f.jF a;have k:=s.jF e;have l:=s.eP;have m:=f.ji 0;have n:=Fm.rT s f 0 a;unfold xf oe;rw[m6 (by omega),he];simp only[cl,ey,ne_eq,Y',P5,ez,mE,gA,la,pO];rw[ea (by omega),na (by omega),b,G4 FU f _ (by rw[fy];omega) (by omega),h,BR _ (by omega),c];simp only[cl,Y',P5,if_true,Qg,tY];rw[sn FU f (by rw[fy];omega) (by omega),FV FU f 0 (by rw[fy];omega) (by omega) (by omega) (by omega),oB FU s (by rw[fy];omega) (by omega)];simp only[cl];rw[fH (by omega) (by omega)]
 have hmul:(f.acg 0:Int)*((s.ab':Int)-1)=((f.acg 0*s.ab':Nat):Int)-(f.acg 0:Int):=by rw[Zc,XJ];push_cast;rfl
 have o:f.acg 0*s.ab'<=4096*4096:=T1 (by omega) g;have i:f.acg 0<=f.acg 0*s.ab':=R7 _ (by omega);rw[yG (by rw[hmul];omega) (by rw[hmul];omega),hmul,fq (by omega) (by omega)]
 by_cases j:4096<(Fm.jX 0 f s).ab'
 ·rw[ee (by omega),ee j]
 ·rw[ea (by omega),ea j,M4 FU f 0 0 s (by rw[fy];omega) (by omega) (by omega) (by omega) (by omega) (Fm.mg f (by omega) h) a (by omega) (Tm.mg s (by omega) c)];simp only[cl,yA];have p:=Fm.jF _ d;rw[lL (by omega)];rfl
def An{α:Type}{E:α->α->Option Bool}{m l:List α}(hlen:l.length=m.length)(h:∀x∈l,∀y,∃r,E x y=some r/\(r=true↔x=y)):∃o:Unit⊕Bool,fp (λ(j:Int) (x:α) (_:Unit)=>cv (eJ m j) λy=>cv (E x y) λz=>if z=true then(some (gj.next ()):Option (gj Unit Bool))else some (gj.ret false)) l 0 ()=some o/\(o=.inl ()/\l=m\/o=.inr false/\l≠m):=by
 let p:α->α->Bool:=λx y=>(E x y).getD false
 have c:∀x∈l,∀y,E x y=some (p x y)/\(p x y=true↔x=y):=by
  intro x a y;obtain⟨r,d,b⟩:=h x a y
  have e:p x y=r:=by show(E x y).getD false=r;rw[d];rfl
  rw[e];exact⟨d,b⟩
 have key:=xd (F:=λ(j:Int) (x:α) (_:Unit)=>cv (eJ m j) λy=>cv (E x y) λz=>if z=true then some (gj.next ())else some (gj.ret false)) p m l 0 m rfl hlen (by
  intro k x y a hy;rw[jj,hy];simp only[cl];rw[(c x a y).1]
  rfl)
 have he:=xI p l m λx a y=>(c x a y).2;rw[key];cases b:vO p l m with
 |false=>rw[b] at he;exact⟨_,rfl,.inr ⟨rfl,λe=>absurd (he.2 e) (by simp)⟩⟩
 |true=>rw[b] at he;exact⟨_,rfl,.inl ⟨rfl,he.1 rfl⟩⟩
def AB:∀(n:Nat) (a b:Fm),a.wt<=n->a.wt<=1000000000->∃r,ku n a b=some r/\(r=true↔a=b):=by
 intro n
 induction n with
 |zero=>intro t b h;have:=t.iS;omega
 |succ n q=>
  intro a b h u;cases a with
  |mk k s ts l=>
  cases b with
  |mk k' f us m=>
   rw[Fm.fP] at h u;have B:=Fm.n5 l;have v:=Tm.n5 ts;rw[ku];simp only[Fm.eG,Fm.eN,Fm.hJ,Fm.fw,ez,eB (l:=l) (by omega),eB (l:=ts) (by omega),eo,ey,fR]
   have no:¬(k=k'/\s=f/\ts=us/\l=m)->∃r,some false=some r/\(r=true↔Fm.mk k s ts l=Fm.mk k' f us m):=by
    intro hn;refine⟨false,rfl,?_⟩;simp only[tY,Z_,Fm.mk.injEq];exact hn
   by_cases d:k≠k'
   ·rw[ee d,ee trivial];exact no λh=>d h.1
   ·rw[ea d];obtain⟨r,w,p⟩:=xN FU s f (by rw[fy];omega) (by omega);rw[w];simp only[cl]
    by_cases e:r=true
    ·have hs:=p.1 e;rw[ee e]
     by_cases g:(ts.length:Int)≠us.length
     ·rw[ee g,ee trivial];exact no λh=>g (by rw[h.2.2.1])
     ·rw[ea g]
      by_cases hm:(l.length:Int)≠m.length
      ·rw[ee hm];exact no λh=>hm (by rw[h.2.2.2])
      ·rw[ea hm];obtain⟨o,z,k2⟩:=An (E:=λx y=>jc FU x y) (l:=ts) (m:=us) (by omega) (λx c y=>xe FU x y (by have:=eI Tm.wt c;rw[fy];omega) (by have:=eI Tm.wt c;omega));rw[z];rcases k2 with⟨rfl,i⟩|⟨rfl,i⟩
       ·simp only[cl,ei];obtain⟨o,q1,A⟩:=An (E:=λx y=>ku n x y) (l:=l) (m:=m) (by omega) (λx c y=>q x y (by have:=eI Fm.wt c;omega) (by have:=eI Fm.wt c;omega));rw[q1];rcases A with⟨rfl,j⟩|⟨rfl,j⟩
        ·exact⟨true,rfl,by simp only[Wd,Fm.mk.injEq];exact⟨w7.1 d,hs,i,j⟩⟩
        ·exact no λh=>j h.2.2.2
       ·exact no λh=>i h.2.2.1
    ·rw[ea e,ee trivial];exact no λh=>e (p.2 h.2.1)
def IC:∀(n:Nat) (a b:Fm),a.wt<=n->a.wt<=1000000000->∃r,qp n a b=some r/\(r=true↔a=b):=by
 intro n
 induction n with
 |zero=>intro t b h;have:=t.iS;omega
 |succ n u=>
  intro a b h v;cases a with
  |mk k s ts l=>
  cases b with
  |mk k' i us m=>
   rw[Fm.fP] at h v;have C:=Fm.n5 l;have w:=Tm.n5 ts;rw[qp];simp only[Fm.eG,Fm.eN,Fm.hJ,Fm.fw,ez,eB (l:=l) (by omega),eo,ey,fR]
   have no:¬(k=k'/\s=i/\ts=us/\l=m)->∃r,some false=some r/\(r=true↔Fm.mk k s ts l=Fm.mk k' i us m):=by
    intro hn;refine⟨false,rfl,?_⟩;simp only[tY,Z_,Fm.mk.injEq];exact hn
   have c:∃r,re ts us=some r/\(r=true↔ts=us):=by
    unfold re;simp only[ey,fR,ez,eB (l:=ts) (by omega),eo]
    by_cases d:(ts.length:Int)≠us.length
    ·rw[ee d];exact⟨false,rfl,by simp only[tY,Z_];rintro rfl;exact d rfl⟩
    ·rw[ea d];obtain⟨o,z,k2⟩:=An (E:=λx y=>kl FU x y) (l:=ts) (m:=us) (by omega) (λx e y=>AR FU x y (by have:=eI Tm.wt e;rw[fy];omega) (by have:=eI Tm.wt e;omega));rw[z];rcases k2 with⟨rfl,j⟩|⟨rfl,j⟩
     ·exact⟨true,rfl,by simpa using j⟩
     ·exact⟨false,rfl,by simpa using j⟩
   by_cases f:k≠k'
   ·rw[ee f,ee trivial];exact no λh=>f h.1
   ·rw[ea f,jh (by omega)];simp only[cl]
    by_cases g:s.lS i=true
    ·have hs:=(Ty.k0 _ _).1 g;obtain⟨r,A,q⟩:=c;rw[ee g,A];simp only[cl]
     by_cases d:r=true
     ·rw[ee d]
      by_cases hm:(l.length:Int)≠m.length
      ·rw[ee hm];exact no λh=>hm (by rw[h.2.2.2])
      ·rw[ea hm];obtain⟨o,q1,B⟩:=An (E:=λx y=>qp n x y) (l:=l) (m:=m) (by omega) (λx e y=>u x y (by have:=eI Fm.wt e;omega) (by have:=eI Fm.wt e;omega));rw[q1];rcases B with⟨rfl,p⟩|⟨rfl,p⟩
       ·exact⟨true,rfl,by simp only[Wd,Fm.mk.injEq];exact⟨w7.1 f,hs,q.1 d,p⟩⟩
       ·exact no λh=>p h.2.2.2
     ·rw[ea d,ee trivial];exact no λh=>d (q.2 h.2.2.1)
    ·rw[ea g,ee trivial];exact no λh=>g ((Ty.k0 _ _).2 h.2.1)
def Fp(l:List Ty)(t:Tm):Tm:=l.foldr (λs b=>.mk 2 0 s [b]) t
def QZ{l:List Ty}(n:l.length<=1000):∀(i m:Nat) (t:Tm),i<=l.length->i<m->pw ((QY λ(b:Int) (c:Int) (v59:Int) (d:Int) (e:List Ty) (f:List Tm)=>
   if(sN b 0)=true then(
   cv (eJ l b) λg=>
   some (.next ((fD .i64 b 1),2,0,g.ab9,g.ab_,[(Tm.mk c v59 (Ty.mk d e) f)])))
   else(some (.Ft (b,c,v59,d,e,f)))):(Int×Int×Int×Int×(List Ty)×(List Tm))->(Option (gj (Int×Int×Int×Int×(List Ty)×(List Tm)) (Tm)))) m ((i:Int)-1,t.ab9,t.aca,t.dv.ab9,t.dv.ab_,t.ab_)=some (.inl (-1,(Fp (l.take i) t).ab9,(Fp (l.take i) t).aca,(Fp (l.take i) t).dv.ab9,(Fp (l.take i) t).dv.ab_,(Fp (l.take i) t).ab_))
 |0,m+1,t,_,_=>by
  rw[od];simp only[QY];rw[ea (by rw[iU];omega)];rfl
 |i+1,m+1,t,hi,hm=>by
  rw[od];simp only[QY];rw[ee (by rw[iU];omega),show((i+1:Nat):Int)-1=(i:Int) by omega,jj,oD (by omega)];simp only[cl,ft];rw[fH (by omega) (by omega)]
  have p:Ty.mk (l[i]).ab9 (l[i]).ab_=l[i]:=by cases l[i];rfl
  have o:Tm.mk t.ab9 t.aca (Ty.mk t.dv.ab9 t.dv.ab_) t.ab_=t:=by cases t with|mk k j s a=>cases s;rfl
  have h:=QZ n i m (.mk 2 0 l[i] [t]) (by omega) (by omega);rw[o];refine h.trans ?_;rw[VR,oD (by omega)];simp only[Fp,TD,Fg,List.foldr_cons,List.foldr_nil]
def zE(t:Tm)(l:List Ty)(b:l.length<=1000):u9 t l=some (Fp l t):=by
 unfold u9;simp only[ez];rw[fR,fH (by omega) (by omega)];have h:=QZ b l.length FU t (jo _) (VB (by omega));rw[h,cl,List.take_length];generalize Fp l t=r;cases r with|mk k j s a=>cases s;rfl
def CZ(t a:Tm):sh t [a]=some (.mk 3 0 (.mk 0 []) [t,a]):=by cases t with|mk k j s l=>cases s;rfl
def KE(t a b:Tm):sh t [a,b]=some (.mk 3 0 (.mk 0 []) [.mk 3 0 (.mk 0 []) [t,a],b]):=by cases t with|mk k j s l=>cases s;rfl
def VJ:Tm:=Fp [.nat] (.mk 6 0 .nat [.mk 4 0 (.mk 0 []) [],Fp [.nat,.nat] (.mk 1 1 (.mk 0 []) []),.mk 1 0 (.mk 0 []) []])
def IU:vB=some VJ:=by
 unfold vB nB rv iN zm;simp only[qy,cl,zE _ _ (show[Ty.nat,Ty.nat].length<=1000 by decide),zE _ _ (show[Ty.nat].length<=1000 by decide)];rfl
def YQ:Tm:=Fp [.nat,.nat] (.mk 6 0 .nat [.mk 1 1 (.mk 0 []) [],Fp [.nat,.nat] (.mk 3 0 (.mk 0 []) [VJ,.mk 1 0 (.mk 0 []) []]),.mk 1 0 (.mk 0 []) []])
def KR:xu=some YQ:=by
 unfold xu nB Am iN zm;simp only[IU,qy,cl,CZ,zE _ _ (show[Ty.nat,Ty.nat].length<=1000 by decide)];rfl
def VD(a b:Tm):Fm:=.mk 1 (.mk 0 []) [.mk 3 0 (.mk 0 []) [.mk 3 0 (.mk 0 []) [YQ,.mk 5 0 (.mk 0 []) [a]],b],.mk 4 0 (.mk 0 []) []] []
def IL(a b:Tm):vU a b=some (VD a b):=by
 unfold vU rv rn;simp only[KR,cl,KE];rfl
def Sg:∀x y:Fin 8,∃z:Fin 8,qN .u8 (x:Nat) (y:Nat)=(z:Nat)/\((z:Nat)%2=1↔(x:Nat)%2=1/\(y:Nat)%2=1):=by decide
def TP:∀x y:Fin 8,∃z:Fin 8,xj .u8 (x:Nat) (y:Nat)=(z:Nat)/\((z:Nat)%2=1↔(x:Nat)%2=1\/(y:Nat)%2=1):=by decide
def Mk(b:Bool)(m:Int):Prop:=∃x:Fin 8,m=((x:Nat):Int)/\((x:Nat)%2=1↔b=true)
def Mk.and{a b:Bool}{x y:Int}(c:Mk a x)(hy:Mk b y):Mk (a&&b) (qN .u8 x y):=by
 obtain⟨x,rfl,d⟩:=c;obtain⟨y,rfl,e⟩:=hy;obtain⟨z,f,g⟩:=Sg x y;exact⟨z,f,by rw[g,d,e,gI]⟩
def Mk.or{a b:Bool}{x y:Int}(c:Mk a x)(hy:Mk b y):Mk (a||b) (xj .u8 x y):=by
 obtain⟨x,rfl,d⟩:=c;obtain⟨y,rfl,e⟩:=hy;obtain⟨z,f,g⟩:=TP x y;exact⟨z,f,by rw[g,d,e,pO]⟩
def Mk.one:Mk true 1:=⟨1,rfl,by decide⟩
def Mk.six:Mk false 6:=⟨6,rfl,by decide⟩
def Mk.four:Mk false 4:=⟨4,rfl,by decide⟩
def Mk.bit{b:Bool}{m:Int}(h:Mk b m):eW (qN .u8 m 1) 0=b:=by
 obtain⟨x,rfl,a⟩:=h
 have key:∀x:Fin 8,eW (qN .u8 ((x:Nat):Int) 1) 0=decide ((x:Nat)%2=1):=by decide
 rw[key x];cases b with
 |false=>exact Dx (λh=>by have:=a.1 h;cases this)
 |true=>exact wa (a.2 rfl)
def Fm.Xm{a:Fm}(d:a.ok=true)(c:a.ab9=2\/a.ab9=3):∃p q,a=.mk a.ab9 (.mk 0 []) [] [p,q]/\p.ok=true/\q.ok=true:=by
 refine Fm.pk (p:=λa=>a.ab9=2\/a.ab9=3->∃p q,a=.mk a.ab9 (.mk 0 []) [] [p,q]/\p.ok=true/\q.ok=true) ?_ ?_ ?_ a d c
 ·intro a b _ _ h;rcases h with h|h<;>cases h
 ·intro k a b _ e f _ _ _;exact⟨a,b,rfl,e,f⟩
 ·intro k s a c _ _ _ h;have h:k=2\/k=3:=h;omega
def Fm.ZK{a:Fm}(d:a.ok=true)(e:a.ab9=1):∃u v,a=.mk 1 (.mk 0 []) [u,v] []/\u.ok=true/\v.ok=true:=by
 refine Fm.pk (p:=λa=>a.ab9=1->∃u v,a=.mk 1 (.mk 0 []) [u,v] []/\u.ok=true/\v.ok=true) ?_ ?_ ?_ a d e
 ·intro a b f g _;exact⟨a,b,rfl,f,g⟩
 ·intro k a b c _ _ _ _ h;have h:k=1:=h;omega
 ·intro k s a c _ _ _ h;have h:k=1:=h;omega
def Tm.Xe{a:Tm}(e:a.ok=true)(f:a.ab9=3):∃c d,a=.mk 3 0 .z [c,d]/\c.ok=true/\d.ok=true:=by
 refine Tm.pk (p:=λa=>a.ab9=3->∃c d,a=.mk 3 0 .z [c,d]/\c.ok=true/\d.ok=true) ?_ ?_ ?_ ?_ ?_ ?_ ?_ ?_ ?_ ?_ ?_ ?_ ?_ a e f
 case refine_3=>intro a b g i _;exact⟨a,b,rfl,g,i⟩
 all_goals(intros;rename_i h;cases h)
def Gi{k:Int}{s:Ty}{a:Fm}(R:(Fm.mk k s [] [a]).ok=true)(hn:(Fm.mk k s [] [a]).ab'<=1000000)(I:a.ace 1000000000000=true)(n:a.ok=true):∃b t q ok,tO (.mk k s [] [a])=some (b,t,q,ok)/\(ok=true->q.ok=true/\q.ab'<a.ab'/\q.ace 1000000000000=true):=by
 rw[Fm.ef] at hn;simp only[eE] at hn;have no:∃b t q ok,(some (false,(Tm.mk 0 0 (Ty.mk 0 []) []),(Fm.mk 0 (Ty.mk 0 []) [] []),false):Option (Bool×Tm×Fm×Bool))=some (b,t,q,ok)/\(ok=true->q.ok=true/\q.ab'<a.ab'/\q.ace 1000000000000=true):=⟨_,_,_,_,rfl,by simp⟩;unfold tO
 obtain⟨o,j,J,S⟩:∃o j,tE (eH (Fm.mk k s [] [a]).ab9 4)=some (o,j)/\(j=2\/j=3):=by
  unfold tE
  split
  ·exact⟨_,_,rfl,.inr rfl⟩
  ·exact⟨_,_,rfl,.inl rfl⟩
 rw[J,eb];simp only[ez]
 by_cases E:eW (Fm.mk k s [] [a]).ab9 o=true
 ·rw[ee E,ee trivial];exact no
 rw[ea E]
 by_cases F:eW (Fm.mk k s [] [a]).dv.ab9 1=true
 ·rw[ee F,ee trivial];exact no
 rw[ea F];simp only[Fm.eG,eU,jA,cl]
 by_cases c3:eW a.ab9 j=true
 ·rw[ee c3,ee trivial];exact no
 rw[ea c3]
 have w:a.ab9=2\/a.ab9=3:=by
  have:a.ab9=j:=by simpa[eW] using c3
  omega
 obtain⟨p,q,e,G,K⟩:=Fm.Xm n w;have x:a.ab_=[p,q]:=(congrArg Fm.ab_ e).trans rfl
 have L:a.ab'=1+p.ab'+q.ab':=by rw[e,Fm.ef];simp[eE];omega
 have l:p.ace 1000000000000=true/\q.ace 1000000000000=true:=by
  have f:=I;rw[e,Fm.fo] at f;simp only[Xk,xc,AI,AJ,gI] at f;exact f
 have M:=p.eP;rw[x];simp only[eU,gz,jA,mP,cl]
 by_cases y:eW p.ab9 1=true
 ·rw[ee y];exact no
 rw[ea y]
 have z:p.ab9=1:=by simpa[eW] using y
 obtain⟨u,v,g,hu,T⟩:=Fm.ZK G z;have A:p.ej=[u,v]:=(congrArg Fm.ej g).trans rfl
 have h:u.ace 1000000000000=true:=by
  have:=l.1;rw[g,Fm.fo] at this;simp only[xc,gI] at this;exact this.1.1
 have N:p.ab'=1+u.ab'+v.ab':=by rw[g,Fm.ef];simp[eE];omega
 rw[A];simp only[eU,jA,cl]
 by_cases c5:eW u.ab9 3=true
 ·rw[ee c5,ee trivial];exact no
 rw[ea c5]
 have B:u.ab9=3:=by simpa[eW] using c5
 obtain⟨c,d,i,U,O⟩:=Tm.Xe hu B;have C:u.ab_=[c,d]:=(congrArg Tm.ab_ i).trans rfl
 have P:u.ab'=1+c.ab'+d.ab':=by rw[i,Tm.ef];simp[eE];omega
 have D:d.ace 1000000000000=true:=by
  rw[i,Tm.fo] at h;simp only[xc,gI] at h;exact h.2.2.1
 rw[C];simp only[gz,mP,jA,cl];rw[A9 0 ⟨O,D,by omega⟩,cl];have yes:∃b t m ok,(some (eH (Fm.mk k s [] [a]).ab9 4,d,q,true):Option (Bool×Tm×Fm×Bool))=some (b,t,m,ok)/\(ok=true->m.ok=true/\m.ab'<a.ab'/\m.ace 1000000000000=true):=⟨_,_,_,_,rfl,λ_=>⟨K,by omega,l.2⟩⟩
 by_cases H:nX (d.acg 0:Int) 0=true
 ·rw[ee H,ee trivial];exact no
 rw[ea H];have hw:=p.jF G;obtain⟨r,Q,_⟩:=AB FU p (VD (.mk 1 0 (.mk 0 []) []) d) (by rw[fy];omega) (by omega);rw[show iN 0=some (Tm.mk 1 0 (.mk 0 []) [])from rfl,cl,IL,cl,Q,cl];cases r with
 |true=>rw[show nt true=false from rfl,ea (by decide)];exact yes|false=>rw[show nt false=true from rfl,ee rfl];exact no
def MY:∀(n:Nat) (f:Fm),f.ab'<=n->f.ab'<=1000000->f.ok=true->f.ace 1000000000000=true->∃m,nW n f=some m/\Mk f.has m:=by
 intro n
 induction n with
 |zero=>intro f h;have:=f.eP;omega
 |succ n w=>
  intro f hn e x c;refine Fm.pk (p:=λf=>f.ab'<=n+1->f.ab'<=1000000->f.ok=true->f.ace 1000000000000=true->∃m,nW (n+1) f=some m/\Mk f.has m) ?_ ?_ ?_ f x hn e x c
  ·intro a b _ _ _ _ _ _;rw[nW,ee (by rfl)];exact⟨6,rfl,by rw[Fm.has_eq];exact Mk.six⟩
  ·intro k a b y z B _ _ hn e _ c;rw[Fm.ef] at hn e;simp only[eE] at hn e;rw[Fm.fo] at c;simp only[Xk,xc,AI,AJ,gI] at c;obtain⟨A,C,r⟩:=w a (by omega) (by omega) z c.1;obtain⟨j,D,u⟩:=w b (by omega) (by omega) B c.2
   have d:k≠1:=by omega
   have E:fU (eH k 2) true (eH k 3)=true:=by rcases y with rfl|rfl<;>rfl
   rw[nW,ea (show¬eH (Fm.mk k (.mk 0 []) [] [a,b]).ab9 1=true by simpa[eH] using d)]
   have F:eJ [a,b] (fD .i64 (eM [a,b]) 1)=some b:=by rw[fH (by simp) (by simp)];rfl
   simp only[Fm.eG,F,cl,D,ez];rw[ee (show fU (eH (Fm.mk k (.mk 0 []) [] [a,b]).ab9 2) true (eH (Fm.mk k (.mk 0 []) [] [a,b]).ab9 3)=true from E)];simp only[eU,jA,cl,C,Fm.eN];refine⟨_,rfl,?_⟩;rw[Fm.Ps,ea d];have l:=(r.and u).and Mk.six;rw[Bool.and_false] at l;rcases y with rfl|rfl
   ·rw[show fU (eH 2 2) (xj .u8 j A) j=xj .u8 j A from rfl];have g:=(u.or r).and Mk.one;rw[AI] at g;have:=l.or g;rw[Sd,Bool.or_comm] at this;simpa using this
   ·rw[show fU (eH 3 2) (xj .u8 j A) j=j from rfl];have g:=u.and Mk.one;rw[AI] at g;have:=l.or g;rw[Sd] at this;simpa using this
  ·intro k s a y hs z _ hn e x c;have G:=e;rw[Fm.ef] at hn e;simp only[eE] at hn e;rw[Fm.fo] at c;simp only[Xk,xc,AI,AJ] at c;obtain⟨A,C,r⟩:=w a (by omega) (by omega) z c
   have d:k≠1:=by omega
   have E:fU (eH k 2) true (eH k 3)=false:=by rcases y with rfl|rfl|rfl|rfl<;>rfl
   rw[nW,ea (show¬eH (Fm.mk k s [] [a]).ab9 1=true by simpa[eH] using d)]
   have F:eJ [a] (fD .i64 (eM [a]) 1)=some a:=by rw[fH (by simp) (by simp)];rfl
   simp only[Fm.eG,F,cl,C,ez];rw[ea (show¬fU (eH (Fm.mk k s [] [a]).ab9 2) true (eH (Fm.mk k s [] [a]).ab9 3)=true by rw[show fU (eH (Fm.mk k s [] [a]).ab9 2) true (eH (Fm.mk k s [] [a]).ab9 3)=false from E];decide)];obtain⟨b,t,q,ok,L,M⟩:=Gi x G c z;rw[L]
   have fin:∀(v:Int) (K:Mk (Fm.mk k s [] [a]).has v),∃m,(Ph (some (b,t,q,ok)) λN O H I=>if I=true then(cv (nW n H) λo=>some (xj .u8 (qN .u8 v 1) (qN .u8 o 4)))else(some (qN .u8 v 1)))=some m/\Mk (Fm.mk k s [] [a]).has m:=by
    intro v K;show∃m,(if ok=true then(cv (nW n q) λo=>some (xj .u8 (qN .u8 v 1) (qN .u8 o 4)))else(some (qN .u8 v 1)))=some m/\Mk (Fm.mk k s [] [a]).has m;have l:=K.and Mk.one;rw[AI] at l;cases ok with
    |false=>exact⟨_,rfl,l⟩|true=>
     obtain⟨d1,d2,d3⟩:=M rfl;obtain⟨j,D,u⟩:=w q (by omega) (by omega) d1 d3;rw[ee rfl,D];refine⟨_,rfl,?_⟩;have g:=u.and Mk.four;rw[Bool.and_false] at g;have:=l.or g
     rwa [Bool.or_false] at this
   have i:(Fm.mk k s [] [a]).has=if k=5 then true else a.has:=by
    rw[Fm.Pe,ea d]
   by_cases J:k=5
   ·subst J;rw[ee (by rfl)];refine fin _ ?_;rw[i,ee rfl];have:=r.or Mk.one
    rwa [Bool.or_true] at this
   ·rw[ea (show¬eH (Fm.mk k s [] [a]).ab9 5=true by simpa[eH] using J)];refine fin _ ?_;rw[i,ea J];exact r
def DD{f:Fm}(hw:f.wt<=1000000000)(b:f.ace 1000000000000=true):pL f=some (if f.err≠0 then(false,f.err)else(f.has,0)):=by
 unfold pL Ar;rw[lp hw,cl]
 by_cases he:f.err=0
 ·obtain⟨a,hn⟩:=Fm.hV he;obtain⟨m,c,d⟩:=MY FU f (by have:=fy;omega) (by omega) a b;rw[ea (by rw[ey];simpa using he),c,cl,d.bit,eb,ea (by simpa using he)]
 ·rw[ee (by rw[ey];exact he),eb,ee he]
def jP{α:Type}(m:List (Int×α)):List Int:=m.map (·.1)
def Cg{α:Type}(k:Int)(v:α):∀(m:List (Int×α)) (x:Int),x∈jP (uL m k v)↔x=k\/x∈jP m
 |[],x=>by simp[uL,jP]|p::m,x=>by
  unfold uL
  by_cases h:p.1=k
  ·rw[ee h];subst h;simp[jP]
  ·rw[ea h];have a:=Cg k v m x;simp only[jP,Aw,ma] at a|-;rw[a];constructor
   ·rintro(h|h|h)
    ·exact .inr (.inl h)
    ·exact .inl h
    ·exact .inr (.inr h)
   ·rintro(h|h|h)
    ·exact .inr (.inl h)
    ·exact .inl h
    ·exact .inr (.inr h)
def BI{α:Type}(k:Int)(v:α):∀(m:List (Int×α)),(jP m).Nodup->(jP (uL m k v)).Nodup
 |[],_=>by simp[uL,jP]|p::m,h=>by
  have b:p.1∉jP m/\(jP m).Nodup:=V'.1 h;unfold uL
  by_cases a:p.1=k
  ·rw[ee a];subst a;exact h
  ·rw[ea a];refine V'.2 ⟨λhm=>?_,BI k v m b.2⟩;rcases(Cg k v m p.1).1 hm with e|e
   ·exact a e
   ·exact b.1 e
def GB{α:Type}(k:Int)(v:α):∀(m:List (Int×α)),(uL m k v).length<=m.length+1
 |[]=>by simp[uL]|p::m=>by
  unfold uL
  split
  ·simp
  ·have:=GB k v m;simp only[ld];omega
def LX(n:Int):∀l:List Int,(BH n l).length=l.length+1
 |[]=>rfl|a::l=>by
  unfold BH
  split
  ·rfl
  ·simp[LX n l]
theorem D2:∀(l acc:List Int),(xW acc l).length=acc.length+l.length
 |[],acc=>by simp[xW]|a::l,acc=>by rw[xW,D2 l,LX];simp only[ld];omega
def A4:∀(n:Nat) (t:Tm) (d:Int) (m:List (Int×Bool)),t.ab'<=n->t.ab'<=100000000->0<=d->d+t.ab'<=1000000000->t.ace 4611686018427387904=true->(jP m).Nodup->∃q,kj n t d m=some q/\(jP q).Nodup/\q.length<=m.length+t.ab'/\∀x,x∈jP q↔x∈jP m\/(0<=x/\0<t.acg (x+d)):=by
 intro n
 induction n with
 |zero=>intro t d m h;have:=t.eP;omega
 |succ n J=>
  intro t d m hn w K L C hm;cases t with
  |mk k i s l=>
   have D:=lH k;rw[Tm.ef] at hn w L;have hlen:=ic Tm.ab' l λt _=>t.eP;rw[Tm.fo,gI,nq,kF] at C
   have ab_:∀(F:Int->Tm->List (Int×Bool)->Option (gj (List (Int×Bool)) (List (Int×Bool)))),(∀j x v,F j x v=cv (lO (Tm.mk k i s l)) λb=>cv (kj n x (fk .i64 d b) v) λr=>some (.next r))->∀(as:List Tm) (j:Nat) (v:List (Int×Bool)),(∀a∈as,a∈l)->(jP v).Nodup->∃e,fp F as j v=some (.inl e)/\(jP e).Nodup/\e.length<=v.length+eE Tm.ab' as/\∀x,x∈jP e↔x∈jP v\/(0<=x/\0<eE (Tm.acg (x+d+gB k)) as):=by
    intro F hF as
    induction as with
    |nil=>intro j v _ y;exact⟨v,rfl,y,by simp[eE],λx=>by simp[eE]⟩|cons a as z=>
     intro j v has y;have E:=has a (by simp);have M:=eI Tm.ab' E;have A:=C.2 a E;obtain⟨v1,f,g,G,o⟩:=J a (d+gB k) v (by omega) (by omega) (by omega) (by omega) A y;obtain⟨v2,g1,g2,g3,g4⟩:=z (j+1) v1 (λb w=>has b (by simp[w])) g;refine⟨v2,?_,g2,by simp only[eE];omega,λx=>?_⟩
     ·rw[fl,hF,oE];simp only[cl,Tm.eN];rw[fq (by omega) (by omega),f];simp only[cl,ft];exact g1
     ·rw[g4,o];simp only[eE];rw[<-Int.add_assoc];constructor
      ·rintro((h|h)|h)
       ·exact .inl h
       ·exact .inr ⟨h.1,by omega⟩
       ·exact .inr ⟨h.1,by omega⟩
      ·rintro(h|⟨h,u⟩)
       ·exact .inl (.inl h)
       ·by_cases N:0<a.acg (x+d+gB k)
        ·exact .inl (.inr ⟨h,N⟩)
        ·exact .inr ⟨h,by omega⟩
   unfold kj;simp only[ez,Tm.eG,eB (l:=l) (by omega),eo,Tm.eN,Tm.gx];rw[Tm.ef]
   by_cases p:k=1/\d<=i
   ·have c:fU (eH k 1) (sN i d) false=true:=by simp[fU,p.1,p.2]
    simp only[c,if_true];rw[fH (by omega) (by omega)];obtain⟨e,f,g,G,o⟩:=ab_ _ (λ_ _ _=>rfl) l 0 (uL m (i-d) true) (λa h=>h) (BI _ _ _ hm);refine⟨e,by rw[f];rfl,g,by have:=GB (i-d) true m;omega,λx=>?_⟩;rw[o,Cg,Tm.gU];constructor
    ·rintro((h|h)|h)
     ·exact .inr ⟨by omega,by rw[ee ⟨p.1,by omega⟩];omega⟩
     ·exact .inl h
     ·exact .inr ⟨h.1,by omega⟩
    ·rintro(h|⟨h,u⟩)
     ·exact .inl (.inr h)
     ·by_cases H:x=i-d
      ·exact .inl (.inl H)
      ·rw[ea (λI=>H (by omega))] at u;exact .inr ⟨h,by omega⟩
   ·have c:fU (eH k 1) (sN i d) false=false:=by
     unfold fU
     split
     ·rename_i O
      have B:k=1:=by simpa using O
      simp only[sN,Y0]
      exactλh=>p ⟨B,h⟩
     ·rfl
    simp only[c,tY,P5];obtain⟨e,f,g,G,o⟩:=ab_ _ (λ_ _ _=>rfl) l 0 m (λa h=>h) hm;refine⟨e,by rw[f];rfl,g,by omega,λx=>?_⟩;rw[o,Tm.gU];constructor
    ·rintro(h|h)
     ·exact .inl h
     ·exact .inr ⟨h.1,by omega⟩
    ·rintro(h|⟨h,u⟩)
     ·exact .inl h
     ·rw[ea (λI=>p ⟨I.1,by omega⟩)] at u;exact .inr ⟨h,by omega⟩
def Ij{t:Tm}(hw:t.wt<=1000000000)(d:t.ace 4611686018427387904=true)(he:t.err=0):∃l,vI t=some (l,0)/\CS l/\l.length<=4096/\∀x,x∈l↔0<=x/\0<t.acg x:=by
 have hn:t.ab'<=4096:=by
  unfold Tm.err at he
  split at he
  ·split at he
   ·cases he
   ·omega
  ·cases he
 obtain⟨m,e,c,f,g⟩:=A4 FU t 0 [] (by rw[fy];omega) (by omega) (by omega) (by omega) d (by simp[jP])
 have a:(m.map (·.1)).Nodup:=c
 have b:m.length<=4096:=by simpa using C7 f (by simpa using hn)
 refine⟨xW [] (jP m),?_,Aq _ [] .nil c (by simp),?_,λx=>?_⟩
 ·unfold vI;rw[na hw,he];simp only[cl];rw[ea (by decide),e];simp only[cl];unfold nV
  rw[eB (by omega),eo,show tk (m.map (·.1))=true from by simp[tk,a],eo]
  rfl
 ·rw[D2];simp[jP,b]
 ·rw[xM,g];simp[jP]
def Fw{n:Int}(a:0<=n)(b:n<4294967296):IntKind.u32.wrap n=n:=by
 unfold IntKind.wrap;simp only[show IntKind.u32.bits=32 from rfl,show IntKind.u32.signed=false from rfl,Zo,tY,P5,show((2:Int)^32)=4294967296 from rfl];omega
def Ks(a:Nat):BitVec.ofInt 32 (a:Int)=BitVec.ofNat 32 a:=by simp
def KQ{a b:Nat}(d:a<4294967296)(e:b<4294967296):xj .u32 (a:Int) (b:Int)=((a|||b:Nat):Int):=by
 unfold xj;have c:a|||b<2^32:=yR (by omega) (by omega);rw[show IntKind.u32.bits=32 from rfl,Ks,Ks,BitVec.toNat_or,OD,OD,YU (by omega),YU (by omega)];exact Fw (by omega) (by omega)
def L3{a b:Nat}(d:a<4294967296)(e:b<4294967296):qN .u32 (a:Int) (b:Int)=((a&&&b:Nat):Int):=by
 unfold qN;have c:a&&&b<2^32:=UJ _ (by omega);rw[show IntKind.u32.bits=32 from rfl,Ks,Ks,BitVec.toNat_and,OD,OD,YU (by omega),YU (by omega)];exact Fw (by omega) (by omega)
def Tj{k:Nat}(b:k<32):RZ .u32 1 (k:Int)=((2^k:Nat):Int):=by
 unfold RZ;rw[show IntKind.u32.bits=32 from rfl,AP,XY (by omega),Int.one_mul];have a:2^k<2^32:=aae (by decide) b;rw[show((2:Int)^k)=((2^k:Nat):Int) by push_cast;rfl];exact Fw (P8 _) (Int.ofNat_lt.2 (WU a rfl))
def Q8{a k:Nat}(b:k<=32):SD .u32 (a:Int) (k:Int)=((a/2^k:Nat):Int):=by
 unfold SD;rw[show IntKind.u32.bits=32 from rfl,AP,XY b];rw[show((2:Int)^k)=((2^k:Nat):Int) by push_cast;rfl];rw[Int.fdiv_eq_ediv_of_nonneg _ (P8 _)];rfl
structure Us (l:List Int) (m:Nat):Prop where
 lt:m<4294967296
 pos:∀x∈l,0<=x
 XB:CS l
 mem:∀i:Nat,(i:Int)∈l↔m.testBit i=true
def Us.nil:Us [] 0:=⟨by decide,by simp,by first|exact .nil|trivial|simp[CS],by simp⟩
def DF{i b:Int}{m:Nat}(hm:m<4294967296)(g:0<=i)(l:i<=1000000000000)(o:0<=b)(p:b<=1000000000)(q:i-b<32):∃c:Nat,oa i b (m:Int)=some (c:Int)/\c<4294967296/\∀j:Nat,c.testBit j=true↔m.testBit j=true\/i=j+b:=by
 unfold oa
 by_cases h:b<=i
 ·rw[ee (by rw[iU];exact h),fH (by omega) (by omega),show H4 (i-b)=true by simp[H4];omega,eo];obtain⟨k,f⟩:∃k:Nat,i-b=(k:Int):=⟨(i-b).toNat,by omega⟩
  have a:k<32:=by omega
  have d:2^k<4294967296:=WU (aae (by decide) a) rfl;rw[f,Tj a,KQ hm d];refine⟨m|||2^k,rfl,yR (n:=32) (by omega) (by omega),λj=>?_⟩;rw[ZQ,pO,OG,OI];constructor
  ·rintro(h|h)
   ·exact .inl h
   ·exact .inr (by omega)
  ·rintro(h|h)
   ·exact .inl h
   ·exact .inr (by omega)
 ·rw[ea (by rw[iU];exact h)];exact⟨m,rfl,hm,λj=>⟨.inl,λe=>e.elim id λe=>absurd e (by omega)⟩⟩
def GO:∀(n:Nat) (t:Tm) (b:Int) (m:Nat),t.ab'<=n->t.ab'<=1000000->t.ok=true->t.ace 1000000000000=true->0<=b->b+t.ab'<=1000000000->m<4294967296->(∀j:Int,32<=j->t.acg (j+b)=0)->∃g:Nat,jV n t b (λ(s:Int) (o:Int) (p:Int)=>oa o p s) (m:Int)=some (g:Int)/\g<4294967296/\∀j:Nat,g.testBit j=true↔m.testBit j=true\/0<t.acg (j+b):=by
 intro n
 induction n with
 |zero=>intro t b m h;have:=t.eP;omega
 |succ n L=>
  intro t b m hn M N r O w hm c;cases t with
  |mk k i s l=>
   rw[Tm.ef] at hn M w;have hlen:=Tm.fF l;have hi:=Tm.l_ N;rw[Tm.fo,gI,OI,kF] at r;have P:=lH k;rw[jV];simp only[ez]
   have x:∀j:Int,32<=j->∀t∈l,t.acg (j+(b+gB k))=0:=by
    intro j y t Q;have z:=c j y;rw[Tm.gU] at z;have V:=eI (Tm.acg (j+b+gB k)) Q;rw[show j+(b+gB k)=j+b+gB k by omega];omega
   have loop:∀(ts:List Tm) (j:Nat) (v:Nat),(∀t∈ts,t∈l)->v<4294967296->∃A:Nat,fp (λ(R:Int) (B:Tm)=>(λ(v28:Int)=>
      cv (jV n B (b+gB k) (λ(s:Int) (o:Int) (p:Int)=>oa o p s) v28) λC=>
      some ((.next C):gj Int Int))) ts j (v:Int)=some (.inl (A:Int))/\A<4294967296/\∀q:Nat,A.testBit q=true↔v.testBit q=true\/0<eE (Tm.acg (q+b+gB k)) ts:=by
    intro ts
    induction ts with
    |nil=>intro j v _ D;exact⟨v,by simp,D,λq=>by simp[eE]⟩|cons t ts E=>
     intro j v d D;have a:=d t (by simp);have S:=eI Tm.ab' a;obtain⟨v1,F,G,H⟩:=L t (b+gB k) v (by omega) (by omega) (hi.2.2.2.1 t a) (r.2 t a) (by omega) (by omega) D (λj y=>x j y t a);obtain⟨v2,f1,f2,f3⟩:=E (j+1) v1 (λu hu=>d u (by simp[hu])) G;refine⟨v2,?_,f2,λq=>?_⟩
     ·rw[fl,F];simp only[cl,ft];exact f1
     ·rw[f3,H];simp only[eE];rw[show(q:Int)+(b+gB k)=q+b+gB k by omega];constructor
      ·rintro((h|h)|h)
       ·exact .inl h
       ·exact .inr (by omega)
       ·exact .inr (by omega)
      ·rintro(h|h)
       ·exact .inl (.inl h)
       ·by_cases T:0<t.acg (q+b+gB k)
        ·exact .inl (.inr T)
        ·exact .inr (by omega)
   by_cases I:k=1
   ·subst I;rw[ee (show eH (Tm.mk 1 i s l).ab9 1=true from rfl)];simp only[Tm.eG,Tm.eN,Tm.gx]
    have J:i-b<32:=by
     rcases Int.lt_or_le (i-b) 32 with h|h
     ·exact h
     ·have z:=c (i-b) h;rw[Tm.gU,ee ⟨rfl,by omega⟩] at z;omega
    obtain⟨U,F,G,H⟩:=DF hm hi.2.1 r.1 O (by omega) J;rw[F,cl,xD 1 b (by omega) (by omega),eB (by omega),eo];obtain⟨K,f1,f2,f3⟩:=loop l 0 U (λt h=>h) G;refine⟨K,?_,f2,λq=>?_⟩
    ·have e:=f1;rw[show((0:Nat))=0 from rfl] at e;rw[e,cl];rfl
    ·rw[f3,H,Tm.gU]
     by_cases f:i=q+b
     ·rw[ee ⟨rfl,f⟩];exact⟨λ_=>.inr (by omega),λ_=>.inl (.inr f)⟩
     ·rw[ea (λh=>f h.2),uK];exact⟨λh=>h.elim (λh=>h.elim .inl λh=>absurd h f) .inr,λh=>h.elim (λh=>.inl (.inl h)) .inr⟩
   ·rw[ea (show¬eH (Tm.mk k i s l).ab9 1=true by simpa[eH] using I)];simp only[Tm.eG,Tm.eN,Tm.gx];rw[xD k b (by omega) (by omega),eB (by omega),eo];obtain⟨K,f1,f2,f3⟩:=loop l 0 m (λt h=>h) hm;refine⟨K,by rw[f1,cl];rfl,f2,λq=>?_⟩;rw[f3,Tm.gU,ea (λh=>I h.1),uK]
def US{t:Tm}(he:t.err=0)(b:t.ace 1000000000000=true)(c:∀j:Int,32<=j->t.acg j=0):∃(l:List Int) (m:Nat),kA t=some (m:Int)/\kM t=some l/\Us l m/\∀x,x∈l↔0<=x/\0<t.acg x:=by
 obtain⟨a,hn⟩:=Tm.hV he;have hw:=t.jF a;obtain⟨m,d,e,f⟩:=GO FU t 0 0 (by have:=fy;omega) (by omega) a b (by omega) (by omega) (by decide) (λj g=>by rw[yA];exact c j g);obtain⟨l,g1,g2,_,g4⟩:=Ij (t:=t) (by omega) (Tm.mg t (by omega) b) he;refine⟨l,m,?_,by unfold kM;rw[g1];rfl,⟨e,λx h=>((g4 x).1 h).1,g2,λi=>?_⟩,g4⟩
 ·unfold kA rO;rw[show(0:Int)=((0:Nat):Int)from rfl] at*;rw[d];rfl
 ·rw[g4,f,yA];simp
def s_(v:List (Int×Bool))(l:List Int):List (Int×Bool):=l.foldl (λv x=>uL v x true) v
def yl:∀(l:List Int) (v:List (Int×Bool)),(jP v).Nodup->(jP (s_ v l)).Nodup/\(s_ v l).length<=v.length+l.length/\∀x,x∈jP (s_ v l)↔x∈jP v\/x∈l
 |[],v,h=>⟨h,by simp[s_],λx=>by simp[s_]⟩|y::l,v,h=>by
  obtain⟨a,c,b⟩:=yl l (uL v y true) (BI y true v h);refine⟨a,?_,λx=>?_⟩
  ·have:=GB y true v;show(s_ (uL v y true) l).length<=_;rw[ld];omega
  ·show x∈jP (s_ (uL v y true) l)↔_;rw[b,Cg,ma];constructor
   ·rintro((h|h)|h)
    ·exact .inr (.inl h)
    ·exact .inl h
    ·exact .inr (.inr h)
   ·rintro(h|h|h)
    ·exact .inl (.inr h)
    ·exact .inl (.inl h)
    ·exact .inr h
def Hj{ρ:Type}:∀(l:List Int) (j:Nat) (v:List (Int×Bool)),fp (λ(c:Int) (a:Int)=>(λ(b:(List (Int×Bool)))=>some ((.next (uL b a true)):gj (List (Int×Bool)) ρ))) l j v=some (.inl (s_ v l))
 |[],j,v=>by rw[pq];rfl|x::l,j,v=>by
  rw[fl];simp only[cl,ft];exact Hj l (j+1) (uL v x true)
def Hd{a b:List Int}(f:a.length<=1000000)(g:b.length<=1000000):∃l,gL a b=some l/\CS l/\∀x,x∈l↔x∈a\/x∈b:=by
 obtain⟨c,d,e⟩:=yl a [] (by simp[jP]);obtain⟨g1,g2,g3⟩:=yl b (s_ [] a) c;refine⟨xW [] (jP (s_ (s_ [] a) b)),?_,Aq _ _ .nil g1 (by simp),λx=>?_⟩
 ·unfold gL;simp only[ez];rw[eB (by omega),eo];rw[Hj a 0 [],cl,ei,eB (by omega),eo,Hj b 0 _,cl,ei];unfold nV;simp only[um] at d;rw[eB (by omega),eo,show tk (List.map (λx=>x.1) (s_ (s_ [] a) b))=true from wa g1,eo];rfl
 ·rw[xM,g3,e];simp[jP]
def Us.union{a b:List Int}{m n:Nat}(c:Us a m)(d:Us b n)(e:a.length<=1000000)(f:b.length<=1000000):∃l,gL a b=some l/\xj .u32 (m:Int) (n:Int)=((m|||n:Nat):Int)/\Us l (m|||n)/\∀x,x∈l↔x∈a\/x∈b:=by
 obtain⟨l,j,k,g⟩:=Hd e f;refine⟨l,j,KQ c.lt d.lt,⟨yR (n:=32) (by have:=c.lt;omega) (by have:=d.lt;omega),λx o=>?_,k,λi=>?_⟩,g⟩
 ·rcases(g x).1 o with h|h
  ·exact c.pos x h
  ·exact d.pos x h
 ·rw[g,c.mem,d.mem,ZQ,pO]
def Us.bound{l:List Int}{m:Nat}(h:Us l m):∀x∈l,x<32:=by
 intro x a;have b:=h.pos x a;obtain⟨k,rfl⟩:=Tb b;have:=(h.mem k).1 a;rcases sH k 32 with h1|h1
 ·omega
 ·exfalso;have c:m<2^k:=Qs h.lt (C7 (by decide:4294967296<=2^32) (Nat.pow_le_pow_right (by decide) h1));rw[Nat.testBit_lt_two_pow c] at this;cases this
def xE(k:Int)(l:List Int):List Int:=(l.filter λx=>decide (k<=x)).map λx=>x-k
def Ht{k:Int}(e:0<=k)(c:k<=1000):∀(l:List Int) (j:Nat) (v:List Int),(∀x∈l,0<=x/\x<32)->v.length+l.length<=1000000->fp (λ(f:Int) (a:Int)=>(λ(b:List Int)=>
   if(sN a k)=true then(
   gS (gr b [(fD .i64 a k)])<|some ((.next (gG b [(fD .i64 a k)])):gj (List Int) (List Int)))
   else(some (.next b)))) l j v=some (.inl (v++xE k l))
 |[],j,v,_,_=>by simp[xE]|x::l,j,v,h,g=>by
  simp only[ld] at g;have i:=h x (by simp);rw[fl]
  by_cases d:k<=x
  ·rw[ee (by rw[iU];exact d),fx (by simp;omega),eo,fH (by omega) (by omega)];simp only[cl,ft];rw[gY,Ht e c l (j+1) _ (λy hy=>h y (by simp[hy])) (by simp;omega)];simp[xE,d]
  ·rw[ea (by rw[iU];exact d)];simp only[cl,ft];rw[Ht e c l (j+1) v (λy hy=>h y (by simp[hy])) (by omega)];simp[xE,d]
def Dm{l:List Int}{m:Nat}(h:Us l m)(d:l.length<=1000000){k:Int}(c:0<=k)(a:k<=1000):gP l k=some (xE k l):=by
 unfold gP;simp only[ez];rw[eB (by omega),eo,Ht c a l 0 [] (λx b=>⟨h.pos x b,h.bound x b⟩) (by simp;omega),cl,ei,o_]
def Gv(k:Int)(l:List Int)(x:Int):x∈xE k l↔x+k∈l/\0<=x:=by
 unfold xE;simp only[oy,Xy,OI];constructor
 ·rintro⟨y,⟨a,b⟩,rfl⟩;exact⟨by rw[Int.sub_add_cancel];exact a,by omega⟩
 ·rintro⟨a,b⟩;exact⟨x+k,⟨a,by omega⟩,by omega⟩
def LD(k:Int):∀{l:List Int},CS l->CS (xE k l)
 |[],_=>.nil|a::l,.cons f g=>by
  have c:=LD k g
  by_cases d:k<=a
  ·have e:xE k (a::l)=(a-k)::xE k l:=by simp[xE,d]
   rw[e];refine .cons (λb h=>?_) c;have:=f _ ((Gv k l b).1 h).1;omega
  ·have e:xE k (a::l)=xE k l:=by simp[xE,d]
   rw[e];exact c
def Us.out{l:List Int}{m:Nat}(h:Us l m)(a:l.length<=1000000){k:Nat}(b:k<=32):gP l (k:Int)=some (xE k l)/\fJ (m:Int) (k:Int)=some ((m/2^k:Nat):Int)/\Us (xE k l) (m/2^k):=by
 refine⟨Dm h a (by omega) (by omega),?_,⟨VO (Nat.div_le_self _ _) h.lt,λx c=>((Gv _ _ _).1 c).2,LD _ h.XB,λi=>?_⟩⟩
 ·unfold fJ;rw[show H4 (k:Int)=true by simp[H4],eo,Q8 b]
 ·rw[Gv,show(i:Int)+(k:Int)=((i+k:Nat):Int) by omega,h.mem]
  have e:(m/2^k).testBit i=m.testBit (i+k):=by rw[Nat.testBit_div_two_pow]
  rw[e];exact⟨λh=>h.1,λh=>⟨h,by omega⟩⟩
def Tm.up_add(f b c:Int)(j:0<=b):∀(t:Tm) (d:Int),(t.up (f+d) b).up (f+d) c=t.up (f+d) (b+c):=by
 intro t
 induction t using Tm.ind with
 |h k i s l e=>
  intro d;rw[Tm.l7,Tm.l7,Tm.l7]
  congr 1
  ·by_cases a:k=1/\f+d<=i
   ·rw[ee a,ee ⟨a.1,by omega⟩];omega
   ·rw[ea a,ea a,ea a]
  ·rw[Tl]
   exact xV λx g=>by
    have:=e x g (d+gB k);rw[show f+(d+gB k)=f+d+gB k by omega] at this;exact this
def Fm.up_add(f b c:Int)(a:0<=b):∀(t:Fm) (d:Int),(t.up (f+d) b).up (f+d) c=t.up (f+d) (b+c):=by
 intro t
 induction t using Fm.ind with
 |h k s ts l e=>
  intro d;rw[Fm.l7,Fm.l7,Fm.l7]
  congr 1
  ·rw[Tl];exact xV λx _=>Tm.up_add f b c a x d
  ·rw[Tl]
   exact xV λx g=>by
    have:=e x g (d+qB k);rw[show f+(d+qB k)=f+d+qB k by omega] at this;exact this
def Fm.XD(t:Fm){b c:Int}(a:0<=b):(t.up 0 b).up 0 c=t.up 0 (b+c):=by
 have:=Fm.up_add 0 b c a t 0
 rwa [yA] at this
def Fm.MM(t:Fm):∀f,t.up f 0=t:=by
 induction t using Fm.ind with
 |h k s ts l a=>
  intro f;rw[Fm.l7]
  congr 1
  ·rw[xV (g:=id) λx _=>Tm.yp x _];simp
  ·rw[xV (g:=id) λx b=>a x b _];simp
def Fm.yp(t:Fm):t.up 0 0=t:=Fm.MM t 0
structure Hy (f:Fm):Prop where
 err:f.err=0
 ace:f.ace 536870912=true
structure T6 (p:eh) (c:en):Prop where
 acb:p.acb=c.acb.map ti
 vars:p.gn.vars=(c.acb.length:Int)
 acf:p.gn.acf=(c.acf.length:Int)
 ctx:iR c.acb
 nv:c.acb.length<=16
 nh:c.acf.length<=16
 known:p.known.length=c.acf.length
 hyp:∀(i:Nat) (x:eu) (h:Fm),p.known[i]?=some x->c.acf[i]?=some h->Hy x.eg/\0<=x.vars/\x.vars<=c.acb.length/\h=x.eg.up 0 (c.acb.length-x.vars)
def T6.with{p:eh}{c:en}(h:T6 p c){f:Fm}(m:Hy f)(hn:c.acf.length+1<=16):∃j d,gm p f=some j/\gE c f=some d/\T6 j d/\d.lemmas=c.lemmas/\d.acb=c.acb/\d.acf=c.acf++[f]:=by
 unfold gm gE;have k:=h.known;rw[fx (by simp;omega),eo,fx (by simp;omega),eo];refine⟨_,_,rfl,rfl,⟨h.acb,h.vars,?_,h.ctx,h.nv,?_,?_,?_⟩,rfl,rfl,by simp only[gY]⟩
 ·show fk .i64 p.gn.acf 1=_;rw[h.acf,fq (by have:=h.nh;omega) (by have:=h.nh;omega),gY];simp
 ·show(gG c.acf [f]).length<=16;rw[gY];simpa using hn
 ·show(gG p.known _).length=(gG c.acf [f]).length;simp[gY,k]
 ·intro i x g b a
  have b:(p.known++[eu.mk f p.gn.vars])[i]?=some x:=by rw[<-gY];exact b
  have a:(c.acf++[f])[i]?=some g:=by rw[<-gY];exact a
  rcases sH i c.acf.length with e|hge
  ·rw[tF (by omega)] at b;rw[tF e] at a;exact h.hyp i x g b a
  ·have hi:i=c.acf.length:=by
    have:=(pz.1 a).1;simp at this;omega
   subst hi;rw[yy (by omega),k,Y2] at b;rw[yy (by omega),Y2] at a;have n:eu.mk f p.gn.vars=x:=iy b;have o:f=g:=iy a;subst n;subst o;have l:=h.vars;refine⟨m,by show 0<=p.gn.vars;omega,by show p.gn.vars<=_;exact Int.le_of_eq l,?_⟩;show f=f.up 0 (c.acb.length-p.gn.vars);rw[l,Int.sub_self];exact(Fm.yp f).symm
def iR.append{g l:List Ty}(h:iR g)(a:iR l):iR (g++l):=λs hs=>(sR.1 hs).elim (h s) (a s)
def Dn{g l:List Ty}(a:iR l)(b:g.length+l.length<=900000):gH (g.map ti) l=some ((g++l).map ti):=by
 unfold gH;rw[vo a (by omega),cl,fx (by simp;omega),eo,gY,Ue]
def T6.below{p:eh}{c:en}(h:T6 p c){l:List Ty}(k:iR l)(hn:c.acb.length+l.length<=16)(n:∀f∈c.acf,f.err=0/\f.ace 1000000000=true):∃m b,f_ p l=some m/\fK c l=some b/\T6 m b/\b.lemmas=c.lemmas/\b.acb=c.acb++l/\b.acf=c.acf.map (Fm.up 0 l.length):=by
 have o:=h.nh
 have q:f_ p l=some (eh.mk (fg.mk (p.gn.vars+l.length) p.gn.acf) ((c.acb++l).map ti) p.known):=by
  unfold f_;rw[h.acb,Dn k (by omega),cl];have:=h.vars;rw[fR,fq (by omega) (by omega)]
 have r:fK c l=some (en.mk c.lemmas (c.acb++l) (c.acf.map (Fm.up 0 l.length))):=by
  unfold fK;simp only[ez]
  rw[fx (by omega),eo,eB (by omega),eo,jz (Fm.up 0 l.length) c.acf 0 [] (by simp;omega) (λj x v s t=>by
   obtain⟨q1,u⟩:=n x s;obtain⟨w,y⟩:=Fm.hV q1
   rw[fR,tX FU x 0 l.length (by rw[fy];omega) (by omega) (by omega) (by omega) (by omega) (by omega) (Fm.mg x (by omega) u),cl,fx (by simpa using t),eo,gY])]
  rw[cl,ei,gY,o_]
 refine⟨_,_,q,r,⟨rfl,?_,?_,h.ctx.append k,?_,?_,?_,?_⟩,rfl,rfl,rfl⟩
 ·show p.gn.vars+l.length=((c.acb++l).length:Int);rw[h.vars];simp
 ·show p.gn.acf=((c.acf.map (Fm.up 0 l.length)).length:Int);rw[h.acf];simp
 ·show(c.acb++l).length<=16;simpa using hn
 ·show(c.acf.map (Fm.up 0 l.length)).length<=16;simpa using h.nh
 ·show p.known.length=(c.acf.map (Fm.up 0 l.length)).length;simpa using h.known
 ·intro i x g d a;have d:p.known[i]?=some x:=d;have a:(c.acf.map (Fm.up 0 l.length))[i]?=some g:=a;rw[uA] at a;cases e:c.acf[i]?with
  |none=>rw[e] at a;cases a
  |some g0=>
   rw[e] at a;have a:g0.up 0 l.length=g:=iy a;obtain⟨a1,a2,a3,a4⟩:=h.hyp i x g0 d e;refine⟨a1,a2,?_,?_⟩
   ·show x.vars<=((c.acb++l).length:Int);simp;omega
   ·show g=x.eg.up 0 (((c.acb++l).length:Int)-x.vars);rw[<-a,a4,Fm.XD _ (by omega)]
    congr 1
    simp;omega
def T6.Nx{p:eh}{c:en}(h:T6 p c){i:Int}(hi:0<=i):if(c.acf.length:Int)<=i then lh p i=some (.mk 0 (.mk 0 []) [] [],false)else∃f,eJ c.acf (fD .i64 (fD .i64 (eM c.acf) 1) i)=some f/\lh p i=some (f,true):=by
 have g:=h.nh;have j:=h.known;unfold lh;rw[fR,j]
 split
 ·rename_i d;rw[ee (by rw[iU];exact d)]
 ·rename_i d;rw[ea (by rw[iU];exact d),fR,fH (a:=(c.acf.length:Int)) (by omega) (by omega),fH (by omega) (by omega)]
  have b:(((c.acf.length:Int)-1-i).toNat)<c.acf.length:=by omega
  have e:(c.acf.length:Int)-1-i=((((c.acf.length:Int)-1-i).toNat:Nat):Int):=by omega
  rw[e,jj,jj,oD b,oD (by omega)];obtain⟨a1,a2,a3,a4⟩:=h.hyp _ _ _ (oD (by omega)) (oD b);refine⟨_,rfl,?_⟩;obtain⟨k,m⟩:=Fm.hV a1.err;have l:=h.nv;rw[cl,h.vars,fH (by omega) (by omega),uo k (by omega) (Fm.mg _ (by omega) a1.ace) (by omega) (by omega) (by omega) (by omega),cl,<-a4]
def T9{t:Tm}(m:t.ok=true):vP t=some t.root:=by
 unfold vP;simp only[ez];cases t with
 |mk k i s l=>
  show(if(eH k 3)=true then(cv (eJ l 0) λg=>some (eH g.ab9 2))else(
   if(eH k 6)=true then(cv (eJ l 2) λe=>if(eH e.ab9 4)=true then some true else some (eH e.ab9 5))else(
   if(eH k 9)=true then(cv (eJ l 2) λf=>if(eH f.ab9 7)=true then some true else some (eH f.ab9 8))else(
   if(fU (eH k 11) true (eH k 12))=true then(cv (eJ l 0) λh=>some (eH h.ab9 10))else some false))))=_
  unfold Tm.root
  by_cases n:k=3
  ·subst n;obtain⟨a,b,rfl⟩:=Tm.ok3 m;rw[ee (by decide)];simp[eU,Tm.kd,uI]
  ·rw[ea (by simpa using n)]
   by_cases o:k=6
   ·subst o;obtain⟨a,b,c,rfl⟩:=Tm.ok6 m;rw[ee (by decide)];simp only[jE,mP,jA,cl,Tm.kd,gw]
    by_cases j:c.ab9=4
    ·simp[j]
    ·simp[j,uI]<;>exact Zk.2 Iff.rfl
   ·rw[ea (by simpa using o)]
    by_cases p:k=9
    ·subst p;obtain⟨a,b,c,rfl⟩:=Tm.ok9 m;rw[ee (by decide)];simp only[jE,mP,jA,cl,Tm.kd,gw]
     by_cases j:c.ab9=7
     ·simp[j]
     ·simp[j,uI]<;>exact Zk.2 Iff.rfl
    ·rw[ea (by simpa using p)]
     by_cases d:k=11\/k=12
     ·obtain⟨a,rfl⟩:=Tm.XX d m;rw[ee (by rcases d with rfl|rfl<;>rfl)];simp only[eU,jA,cl,Tm.kd];rcases d with rfl|rfl<;>simp[uI]<;>exact Zk.2 Iff.rfl
     ·rw[ea (by simp only[la,pO,gw];exact d)];simp only[not_or] at d;simp[n,o,p,d.1,d.2]
def yV{t:Tm}(h:t.ab'<=1000000000):gl FU t=some (t.ab':Int):=oB FU t (by rw[fy];exact h) h
def QN{t:Tm}(o:t.ok=true)(hn:t.ab'<=8192)(f:t.root=true):si t=some ((t.gp.ab':Int)-(t.ab':Int)):=by
 have j:=Tm.Jb o f;have p:=hn;unfold si;rw[yV (by omega)];simp only[cl];cases j with
 |app=>
  rename_i i s c d b a;have l:=Tm.Dh (Tm.Dh o (.mk 2 c d [b]) (by simp)) b (by simp);rw[Tm.ef] at hn;simp only[eE,Tm.ef] at hn;rw[ee (by rfl)];simp only[Tm.eG,eU,gz,jA,mP,cl];rw[yV (t:=b) (by omega),yV (t:=a) (by omega),zO FU b 0 (by rw[fy];omega) (by omega) (by omega) (by omega)];simp only[cl];have q:=Tm.ji b 0;have hmul:b.acg 0*a.ab'<=8192*8192:=T1 (by omega) (by omega);have r:=Tm.rT a b 0 l;have u:=a.eP
  have e:(Tm.mk 3 i s [.mk 2 c d [b],a]).gp=Tm.jX 0 b a:=by simp[Tm.gp]
  rw[e]
  have hint:(b.acg 0:Int)*((a.ab':Int)-1)=((b.acg 0*a.ab':Nat):Int)-(b.acg 0:Int):=by rw[Zc,XJ];simp
  rw[fH (a:=(a.ab':Int)) (by omega) (by omega),yG (by rw[hint];omega) (by rw[hint];omega),hint,fq (by omega) (by omega),fH (by omega) (by omega)]
  congr 1
  omega
 |proj m=>
  rename_i k i s c d a b;rw[Tm.ef] at hn;simp only[eE,Tm.ef] at hn;rcases m with rfl|rfl
  ·rw[ea (by simp),ea (by simp),ea (by simp),ee (by rfl)];simp only[Tm.eG,eU,gz,jA,mP,cl];rw[yV (t:=a) (by omega)];simp only[cl];rw[fH (by omega) (by omega)];simp[Tm.gp]
  ·rw[ea (by simp),ea (by simp),ea (by simp),ea (by simp)];simp only[Tm.eG,eU,gz,jA,mP,cl];rw[yV (t:=b) (by omega)];simp only[cl];rw[fH (by omega) (by omega)];simp[Tm.gp]
 |zero m=>
  rename_i k v i s c d b st;rw[Tm.ef] at hn;simp only[eE,Tm.ef] at hn
  have g:k≠3/\k≠11/\k≠12:=by omega
  have:(Tm.mk k i s [b,st,.mk v c d []]).gp=b:=by simp[Tm.gp,g.1,g.2.1,g.2.2]
  rw[this];rcases m with⟨rfl,rfl⟩|⟨rfl,rfl⟩
  ·rw[ea (by simp),ee (by rfl)];simp only[Tm.eG,eU,gz,jE,jA,mP,cl];rw[ee (by rfl),yV (t:=b) (by omega)];simp only[cl];rw[fH (by omega) (by omega)]
  ·rw[ea (by simp),ea (by simp),ee (by rfl)];simp only[Tm.eG,eU,gz,jE,jA,mP,cl];rw[ee (by rfl),yV (t:=b) (by omega)];simp only[cl];rw[fH (by omega) (by omega)]
 |succ=>
  rename_i i s c d b st n
  have e:(Tm.mk 6 i s [b,st,.mk 5 c d [n]]).gp=mv st [n,.mk 6 i s [b,st,n]]:=by simp[Tm.gp,mv]
  rw[e,oX];rw[Tm.ef] at hn|-;simp only[eE,Tm.ef,ld,um] at hn|-;rw[ea (by simp),ee (by rfl)];simp only[Tm.eG,eU,gz,jE,jA,mP,cl];rw[ea (by simp),yV (t:=st) (by omega),yV (t:=n) (by omega)];simp only[cl];rw[fq (a:=2) (by omega) (by omega),fq (b:=(n.ab':Int)) (by omega) (by omega),fq (by omega) (by omega),fH (b:=1) (by omega) (by omega),fH (by omega) (by omega)]
  congr 1
  omega
 |cons=>
  rename_i i s c d b st h n
  have e:(Tm.mk 9 i s [b,st,.mk 8 c d [h,n]]).gp=mv st [h,n,.mk 9 i s [b,st,n]]:=by simp[Tm.gp,mv]
  rw[e,oX];rw[Tm.ef] at hn|-;simp only[eE,Tm.ef,ld,um] at hn|-;rw[ea (by simp),ea (by simp),ee (by rfl)];simp only[Tm.eG,eU,gz,jE,jA,mP,cl];rw[ea (by simp),yV (t:=st) (by omega),yV (t:=h) (by omega),yV (t:=n) (by omega)];simp only[cl];rw[fq (a:=3) (by omega) (by omega),fq (b:=(h.ab':Int)) (by omega) (by omega),fq (b:=(n.ab':Int)) (by omega) (by omega),fq (by omega) (by omega),fH (b:=1) (by omega) (by omega),fH (b:=(h.ab':Int)) (by omega) (by omega),fH (by omega) (by omega)]
  congr 1
  omega
def N5{M:Int}(o:0<=M/\M<=1000000000000){t:Tm}(hs:Sm M t)(hn:t.ab'<=8192)(c:t.root=true):rh t=some t.gp:=by
 have j:=hs.ok;have l:=Tm.Jb j c;have hw:=Tm.jF t j;unfold rh;cases l with
 |app=>
  rename_i i s e f b a;have d:=(hs.arg (.mk 2 e f [b]) (by simp)).arg b (by simp);have g:=hs.arg a (by simp);have p:=d.ab';have q:=g.ab';rw[ee (by rfl)];simp only[Tm.eG,eU,gz,jA,mP,cl];rw[Ek FU b 0 0 a (by rw[fy];omega) (by omega) (by omega) (by omega) (by omega) (d.mono o.2).ace d.ok (by omega) (g.mono o.2).ace];simp[Tm.gp]
 |proj m=>
  rename_i k i s e f a b;rcases m with rfl|rfl
  ·rw[ea (by simp),ea (by simp),ea (by simp),ee (by rfl)];simp[Tm.gp,eU]
  ·rw[ea (by simp),ea (by simp),ea (by simp),ea (by simp)];simp[Tm.gp,eU,gz]
 |zero m=>
  rename_i k r i s e f b st;rcases m with⟨rfl,rfl⟩|⟨rfl,rfl⟩
  ·rw[ea (by simp),ee (by rfl)];simp[Tm.gp,eU,jE,eH]
  ·rw[ea (by simp),ea (by simp),ee (by rfl)];simp[Tm.gp,eU,jE,eH]
 |succ=>
  rename_i i s e f b st n;have hi:i=0:=(Tm.l_ j).2.2.1 (by decide);subst hi;rw[Tm.fP] at hw;simp only[eE,Tm.fP] at hw;rw[ea (by simp),ee (by rfl)];simp only[Tm.eG,eU,gz,jE,jA,mP,cl,Tm.fw];rw[ea (by simp),tR (by omega) (by omega)];simp only[cl];rw[Db (by omega) (by omega) (by omega) (by omega)];simp only[cl];rw[qu _ _ (by simp only[eE,Tm.fP,Ty.z,Ty.ef];omega)];simp[Tm.gp,mv,Ty.z]
 |cons=>
  rename_i i s e f b st h n;have hi:i=0:=(Tm.l_ j).2.2.1 (by decide);subst hi;rw[Tm.fP] at hw;simp only[eE,Tm.fP] at hw;rw[ea (by simp),ea (by simp),ee (by rfl)];simp only[Tm.eG,eU,gz,jE,jA,mP,cl,Tm.fw];rw[ea (by simp),tR (by omega) (by omega)];simp only[cl];rw[qu _ _ (by simp only[eE,Tm.fP,Ty.z,Ty.ef];omega)];simp only[cl];rw[Db (by omega) (by omega) (by omega) (by omega)];simp only[cl];rw[qu _ _ (by simp only[eE,Tm.fP,Ty.z,Ty.ef];omega)];simp[Tm.gp,mv,Ty.z]
def Xd(t:Tm)(o:Option (Option Tm))(r:Tm×Bool×Bool):Prop:=
 match o with
 |none=>r.2.1=true/\r.2.2=false|some none=>r=(t,false,true)|some (some a)=>r=(a,true,true)
def O1{M:Int}(C:0<=M/\M<=1000000000000)(room:Int):∀(n:Nat) (t:Tm),t.ab'<=n->Sm M t->t.ab'<=8192->∃r,pc n t room=some r/\Xd t (t.Jk room) r
 |0,t,hn,_,_=>by have:=t.eP;omega
 |n+1,.mk k i s l,hn,hs,B=>by
  rw[pc,T9 hs.ok];simp only[cl];rw[Tm.Bu]
  by_cases p:(Tm.mk k i s l).root=true
  ·rw[ee p,ee p,QN hs.ok B p];simp only[cl,gA]
   by_cases hg:((Tm.mk k i s l).gp.ab':Int)-((Tm.mk k i s l).ab':Int)>room
   ·rw[ee hg,ee hg];exact⟨_,rfl,rfl,rfl⟩
   ·rw[ea hg,ea hg,N5 C hs B p];exact⟨_,rfl,rfl⟩
  ·rw[ea p,ea p];rw[Tm.ef] at hn B;have hlen:=Tm.Y8 hs.ok;simp only[Tm.eG,ez,eB (l:=l) (by omega),eo,Tm.eN,Tm.gx,Tm.fw]
   have key:∀(ts pre:List Tm),l=pre++ts->∃o,fp (λ(a:Int) (v:Tm)=>(λ(_:Unit)=>
     iL (pc n v room) λw x y=>
     if x=true then(
     gS (yI l)<|cv (eJ l a) λD=>
     some (gj.ret ((Tm.mk k i s (xl l a w)),true,y)))
     else(some (.next ())))) ts pre.length ()=some o/\(match Tm.sP room ts with
      |none=>∃r:Tm×Bool×Bool,o=.inr r/\r.2.1=true/\r.2.2=false|some none=>o=.inl ()|some (some g)=>o=.inr (Tm.mk k i s (pre++g),true,true)):=by
    intro ts
    induction ts with
    |nil=>intro pre _;exact⟨_,rfl,by rw[Tm.sP]⟩|cons t ts E=>
     intro pre z
     have h:t∈l:=by rw[z];simp
     have F:=eI Tm.ab' h;obtain⟨⟨u,b,c⟩,G,j⟩:=O1 C room n t (by omega) (hs.arg t h) (by omega);rw[fl];simp only[G,ov]
     have d:eJ l ((pre.length:Nat):Int)=some t:=by
      unfold eJ;rw[ee (by omega)];rw[z];simp
     have gb:xl l ((pre.length:Nat):Int) u=pre++u::ts:=by
      unfold xl;rw[z,AP,FM]
     have f:yI l=true:=by
      unfold yI Lk;have:0<l.length:=List.length_pos_of_mem h;exact wa (by omega)
     rw[Tm.sP];unfold Xd at j;cases e:t.Jk room with
     |none=>
      rw[e] at j;obtain⟨q1,A⟩:=j;simp only at q1 A;rw[ee q1,f,eo,d];exact⟨_,rfl,_,rfl,rfl,A⟩
     |some o=>
      cases o with
      |none=>
       rw[e] at j;obtain⟨rfl,q⟩:=iz j;obtain⟨rfl,rfl⟩:=iz q;rw[ea (by decide)];simp only[cl,ft];obtain⟨o,o1,o2⟩:=E (pre++[u]) (by rw[z];simp);rw[qY] at o1;refine⟨o,o1,?_⟩;cases m:Tm.sP room ts with
       |none=>rw[m] at o2;exact o2
       |some q=>
        cases q with
        |none=>rw[m] at o2;exact o2
        |some g=>rw[m] at o2;simpa using o2
      |some H=>
       rw[e] at j;obtain⟨rfl,q⟩:=iz j;obtain⟨rfl,rfl⟩:=iz q;rw[ee rfl,f,eo,d];simp only[cl,gb];exact⟨_,rfl,rfl⟩
   obtain⟨o,o1,o2⟩:=key l [] rfl;rw[show(([]:List Tm).length)=0 from rfl] at o1;rw[o1];cases m:Tm.sP room l with
   |none=>
    rw[m] at o2;obtain⟨r,rfl,q1,A⟩:=o2;exact⟨r,rfl,q1,A⟩
   |some q=>
    cases q with
    |none=>rw[m] at o2;subst o2;exact⟨_,rfl,rfl⟩
    |some g=>rw[m] at o2;subst o2;exact⟨_,rfl,rfl⟩
def tf{t:Tm}(h:t.err=0):t.ok=true/\t.ab'<=4096:=Tm.hV h
def Co(steps:Int)(z:0<=steps/\steps<=65536):∀(k:Nat) (m:Int) (t:Tm) (N:Nat),(k:Int)=steps-m->0<=m->Sm (536870912+8192*m) t->t.ab'<=4096->k<N->pw ((QY λ(d:Int) (f:Int) (g:Int) (i:Int) (j:List Ty) (l:List Tm)=>
   cv (gl FU (Tm.mk f g (Ty.mk i j) l)) λr=>
   iL (pc FU (Tm.mk f g (Ty.mk i j) l) (fD .i64 4096 r)) λa s v=>
   if s=true then(
   if(eH d steps)=true then(
   some (.ret ((Tm.mk 0 0 (Ty.mk 0 []) []),0,5)))
   else(if v=true then(
   some (.next ((fk .i64 d 1),a.ab9,a.aca,a.dv.ab9,a.dv.ab_,a.ab_)))
   else(some (.ret ((Tm.mk 0 0 (Ty.mk 0 []) []),0,4)))))
   else(cv (jD FU (Tm.mk f g (Ty.mk i j) l)) λw=>
   some (.ret (w,d,0)))):(Int×Int×Int×Int×(List Ty)×(List Tm))->(Option (gj (Int×Int×Int×Int×(List Ty)×(List Tm)) (Tm×Int×Int)))) N (m,t.ab9,t.aca,t.dv.ab9,t.dv.ab_,t.ab_)=some (.inr (t.norm k m))
 |k,m,t,0,_,_,_,_,A=>by omega|k,m,t,N+1,C,hm,hs,hn,A=>by
  rw[od];simp only[zh,WA];have hw:=Tm.jF t hs.ok;rw[yV (by omega)];simp only[cl];rw[fH (by omega) (by omega)];obtain⟨⟨u,b,c⟩,B,n⟩:=O1 (M:=536870912+8192*m) (by omega) (4096-t.ab') FU t (by rw[fy];omega) hs (by omega);rw[B];simp only[ov];unfold Xd at n;cases e:t.Jk (4096-t.ab')with
  |none=>
   rw[e] at n;obtain⟨q1,y⟩:=n;simp only at q1 y;rw[ee q1];cases k with
   |zero=>
    have p:¬t.nf=true:=by
     intro h;rw[(FK _ t).1 h] at e;cases e
    rw[ee (by simp[eH];omega),Tm.norm,ea p];rfl
   |succ k=>
    rw[ea (by simp[eH];omega),ea (by rw[y];decide),L4 e];rfl
  |some o=>
   cases o with
   |none=>
    rw[e] at n;obtain⟨rfl,q⟩:=iz n;obtain⟨rfl,rfl⟩:=iz q;rw[ea (by decide),nI (by omega)];cases k with
    |zero=>rw[Tm.norm,ee ((FK _ _).2 e)];rfl|succ k=>rw[I' e];rfl
   |some D=>
    rw[e] at n;obtain⟨rfl,q⟩:=iz n;obtain⟨rfl,rfl⟩:=iz q;rw[ee rfl];cases k with
    |zero=>
     have p:¬t.nf=true:=by
      intro h;rw[(FK _ t).1 h] at e;cases e
     rw[ee (by simp[eH];omega),Tm.norm,ea p];rfl
    |succ k=>
     obtain⟨s1,s2,E⟩:=Kl (M:=536870912+8192*m) (by omega) t hs (by omega) _ e;rw[ea (by simp[eH];omega),ee rfl,Jy e,fq (by omega) (by omega)];have x:Sm (536870912+8192*(m+1)) u:=⟨s1,by rw[show 536870912+8192*(m+1)=536870912+8192*m+8192 by omega];exact s2,by omega⟩;exact Co steps z k (m+1) u N (by omega) (by omega) x (by omega) (by omega)
def Ji:∀(k:Nat) (m:Int) (t p:Tm) (n e:Int),t.norm k m=(p,n,e)->e≠0->p=Tm.z
 |0,m,t,p,n,e,h,he=>by
  rw[Tm.norm] at h
  split at h
  ·obtain⟨_,h⟩:=iz h;obtain⟨_,h⟩:=iz h;exact absurd h.symm he
  ·exact(iz h).1.symm
 |k+1,m,t,p,n,e,h,he=>by
  rw[Tm.norm] at h
  split at h
  ·exact(iz h).1.symm
  ·obtain⟨_,h⟩:=iz h;obtain⟨_,h⟩:=iz h;exact absurd h.symm he
  ·exact Ji k _ _ _ _ _ h he
def y5{t:Tm}(hw:t.wt<=1000000)(steps:Int):∃p m e,kI t steps=some (p,m,e)/\mz t steps=some (p,m,e)/\p.wt<=1000000000:=by
 have i:=t.iI
 have c:Tm.z.wt<=1000000000:=by decide
 have a:=xr (t:=t) (by omega) steps;unfold mz;rw[na (by omega)];simp only[cl]
 by_cases he:t.err=0
 ·obtain⟨j,hn⟩:=tf he;rw[ee he] at a;rw[ea (by simp[eW,he])];simp only[ez,mE,gA]
  by_cases a1:steps<0
  ·rw[ea (by omega)] at a;rw[ee a1,ee trivial];exact⟨_,_,_,a,rfl,c⟩
  ·rw[ea a1]
   by_cases a2:steps>65536
   ·rw[ea (by omega)] at a;rw[ee a2,ee trivial];exact⟨_,_,_,a,rfl,c⟩
   ·rw[ea a2,zZ FU t 536870912 (by rw[fy];omega) (by omega)];simp only[cl]
    by_cases b:t.ace 536870912=true
    ·rw[ee ⟨by omega,by omega,b⟩] at a;have hs:Sm 536870912 t:=⟨j,b,by omega⟩;rw[b,ea (by decide),Co steps (by omega) steps.toNat 0 t FU (by omega) (by omega) hs (by omega) (by rw[fy];omega)];generalize d:t.norm steps.toNat 0=o at a;obtain⟨p,m,e⟩:=o;refine⟨p,m,e,a,rfl,?_⟩;have f:=L' steps.toNat 0 t
     by_cases g:e=0
     ·subst g;obtain⟨q1,k⟩:=Fz _ 536870912 _ _ _ _ (by omega) hs hn d;have:=Tm.jF p q1.ok;omega
     ·rw[Ji _ _ _ _ _ _ d g];exact c
    ·rw[ea (λh=>b h.2.2)] at a;rw[ee (by rw[Bool.not_eq_true] at b;rw[b];rfl)];exact⟨_,_,_,a,rfl,c⟩
 ·rw[ea he] at a;rw[ee (by simp[eW,he])];exact⟨_,_,_,a,rfl,c⟩
def JK{a b:Tm}(c:a.wt<=1000000000):∃r,rD a b=some r/\kl FU a b=some r:=by
 obtain⟨r,d,e⟩:=wZ (b:=b) c;obtain⟨q,q1,f⟩:=AR FU a b (by rw[fy];exact c) c
 have:r=q:=by rw[B5,e,f]
 subst this;exact⟨r,d,q1⟩
def NI{a b:Tm}(l:a.wt<=1000000)(o:b.wt<=1000000)(steps:Int):∃c,lG a b steps=some c/\rS a b steps=some c:=by
 unfold lG rS;rw[p4 (by omega),p4 (t:=b) (by omega),na (by omega),na (t:=b) (by omega)];simp only[cl]
 by_cases d:eW a.err 0=true
 ·rw[ee d,ee d];exact⟨_,rfl,rfl⟩
 ·rw[ea d,ea d]
  by_cases g:eW b.err 0=true
  ·rw[ee g,ee g];exact⟨_,rfl,rfl⟩
  ·rw[ea g,ea g];obtain⟨r,u,v⟩:=JK (a:=a) (b:=b) (by omega);rw[u,v];simp only[cl]
   by_cases h:r=true
   ·rw[ee h,ee h];exact⟨_,rfl,rfl⟩
   ·rw[ea h,ea h];obtain⟨p,m,e,w,x,y⟩:=y5 l steps;obtain⟨q,n,f,q1,z,A⟩:=y5 o steps;rw[w,x,q1,z];simp only[ov]
    by_cases i:eW e 0=true
    ·rw[ee i,ee i];exact⟨_,rfl,rfl⟩
    ·rw[ea i,ea i]
     by_cases j:eW f 0=true
     ·rw[ee j,ee j];exact⟨_,rfl,rfl⟩
     ·rw[ea j,ea j];obtain⟨s,s1,s2⟩:=JK (a:=p) (b:=q) y;rw[s1,s2];simp only[cl]
      by_cases k:s=true
      ·rw[ee k];exact⟨_,rfl,rfl⟩
      ·rw[ea k];exact⟨_,rfl,rfl⟩
def DR{α:Type}{E E':α->α->Option Int}{M:List α}:∀(l:List α) (i:Nat),(∀x∈l,∀y∈M,∃c,E x y=some c/\E' x y=some c)->i+l.length<=M.length->∃o,fp (λ(d:Int) (e:α)=>(λ(_:Unit)=>cv (eJ M d) λb=>cv (E e b) λa=>if(eW a 0)=true then(some (.ret a))else(some ((.next ()):gj Unit Int)))) l i ()=some o/\fp (λ(d:Int) (e:α)=>(λ(_:Unit)=>cv (eJ M d) λb=>cv (E' e b) λa=>if(eW a 0)=true then(some (.ret a))else(some ((.next ()):gj Unit Int)))) l i ()=some o
 |[],i,_,_=>⟨.inl (),by simp,by simp⟩|x::l,i,h,g=>by
  simp only[ld] at g;obtain⟨c,j,k⟩:=h x (by simp) M[i] (CG (by omega));rw[fl,fl,jj,oD (by omega)];simp only[cl,j,k]
  by_cases f:eW c 0=true
  ·rw[ee f];exact⟨.inr c,rfl,rfl⟩
  ·rw[ea f];simp only[cl,ft];exact DR l (i+1) (λy hy=>h y (by simp[hy])) (by omega)
def Fm.shape{k:Int}{s f:Ty}{ts us:List Tm}{l m:List Fm}(h:(Fm.mk k s ts l).ok=true)(d:(Fm.mk k f us m).ok=true):ts.length=us.length/\l.length=m.length:=by
 rw[Fm.h_] at h d;simp only[gI] at h d;have c:=h.1.1;have a:=d.1.1;unfold Fm.node at c a
 split at c
 ·rename_i e;rw[ee e] at a;simp only[gI,nq] at c a;omega
 ·rename_i e;rw[ea e] at a
  split at c
  ·rename_i b;rw[ee b] at a;simp only[gI,nq] at c a;omega
  ·rename_i b;rw[ea b] at a;simp only[gI,nq] at c a;omega
def NP:∀(n:Nat) (a b:Fm),a.wt<=n->a.wt<=1000000->b.wt<=1000000->a.ok=true->b.ok=true->∃c,jI n a b=some c/\oK n a b=some c:=by
 intro n
 induction n with
 |zero=>intro t b h;have:=t.iS;omega
 |succ n w=>
  intro a b h z g p d;cases a with
  |mk k s ts l=>
  cases b with
  |mk k' A us m=>
   rw[Fm.fP] at h z g;have D:=Fm.n5 l;have B:=Tm.n5 ts;rw[jI,oK];simp only[Fm.eG,Fm.eN,Fm.hJ,Fm.fw,ez,eB (l:=l) (by omega),eB (l:=ts) (by omega),eo,ey]
   by_cases e:k≠k'
   ·rw[ee e,ee e];exact⟨11,rfl,rfl⟩
   ·rw[ea e,ea e,qz (by omega),jh (by omega)];simp only[cl];have i:k=k':=w7.1 e;subst i;obtain⟨s1,s2⟩:=Fm.shape p d;obtain⟨_,F,ol⟩:=Fm.rm p;obtain⟨_,C,j⟩:=Fm.rm d;cases s.lS A with
    |false=>exact⟨11,rfl,rfl⟩|true=>
     obtain⟨o,q,k2⟩:=DR (E:=λx y=>lG x y 1000) (E':=λx y=>rS x y 1000) (M:=us) ts 0 (λx f y hy=>NI (by have:=eI Tm.wt f;omega) (by have:=eI Tm.wt hy;omega) 1000) (by omega);simp only[ey] at q k2;rw[ea (by decide),ea (by decide),q,k2];cases o with
     |inr r=>exact⟨r,rfl,rfl⟩|inl u=>
      simp only[cl,ei];obtain⟨o,q1,v⟩:=DR (E:=λx y=>jI n x y) (E':=λx y=>oK n x y) (M:=m) l 0 (λx f y hy=>w x y (by have:=eI Fm.wt f;omega) (by have:=eI Fm.wt f;omega) (by have:=eI Fm.wt hy;omega) (ol x f) (j y hy)) (by omega);simp only[ey] at q1 v;rw[q1,v];cases o with
      |inr r=>exact⟨r,rfl,rfl⟩|inl u=>exact⟨0,rfl,rfl⟩
def BC{a b:Fm}(f:a.wt<=1000000000)(g:b.wt<=1000000000):∃c,jd a b=some c/\oN a b=some c:=by
 unfold jd oN;rw[lp f,lp g,m6 f,m6 g];simp only[cl,ey]
 by_cases d:a.err≠0
 ·rw[ee d,ee d];exact⟨_,rfl,rfl⟩
 ·rw[ea d,ea d]
  by_cases e:b.err≠0
  ·rw[ee e,ee e];exact⟨_,rfl,rfl⟩
  ·rw[ea e,ea e];obtain⟨o1,n1⟩:=Fm.hV (w7.1 d);obtain⟨o2,n2⟩:=Fm.hV (w7.1 e);have j:=a.jF o1;have k:=b.jF o2;obtain⟨c,h,i⟩:=NP FU a b (by rw[fy];omega) (by omega) (by omega) o1 o2;rw[h,i];exact⟨c,rfl,rfl⟩
def LK{g:List Ty}{x:Tm}{t:Ty}(h:e_ g x t)(hg:iR g)(a:g.length+x.ab'<=1000000):x.ty g=(t,0):=by
 have b:=(R9 h hg).2 x.ab' (jo _) a;rw[zu x.ab' x (jo _) h.ok g hg a] at b;exact iy b
def Lm{g:List Ty}{x:Tm}(c:x.ok=true)(hg:iR g)(h:pQ x g 1=0):e_ g x .nat:=by
 unfold pQ at h
 split at h
 ·cases h
 ·rename_i d
  have e:(x.ty g).1.ab9=1:=by
   rcases Int.emod_two_eq (x.ty g).1.ab9 with _|_<;>
   ·by_cases a:(x.ty g).1.ab9=1
    ·exact a
    ·exact absurd ⟨h,a⟩ d
  obtain⟨b,f⟩:=q9 _ x (jo _) c g hg _ (xO h);rw[(vl f).1 e] at b;exact b
def JU{g:List Ty}{x:Tm}(h:e_ g x .nat)(hg:iR g)(a:g.length+x.ab'<=1000000):pQ x g 1=0:=by
 unfold pQ;rw[LK h hg a];exact ea (λh=>h.2 rfl)
def rV(f:Fm)(o:f.ok=true):∀g,iR g->f.vw g=0->k4 g f:=by
 refine Fm.pk (p:=λf=>∀g,iR g->f.vw g=0->k4 g f) ?_ ?_ ?_ f o
 ·intro a b j n g hg h;rw[Fm.ug] at h
  by_cases c:pQ a g 1=0
  ·by_cases e:pQ b g 1=0
   ·exact .eq (Lm j hg c) (Lm n hg e)
   ·simp[fX,c,e] at h
  ·simp[fX,c] at h
 ·intro k a b i j n d l g hg h
  have m:kQ k=false:=by rcases i with rfl|rfl<;>rfl
  rw[Fm.ug,m] at h;simp only[Nc,fX,Aw,if_true,tY,P5] at h
  by_cases c:a.vw g=0
  ·rw[ee c] at h
   by_cases e:b.vw g=0
   ·exact .two i (d g hg c) (l g hg e)
   ·rw[ea e] at h;exact absurd h e
  ·rw[ea c] at h;exact absurd h c
 ·intro k s a i hs j d g hg h
  have m:kQ k=true:=by rcases i with rfl|rfl|rfl|rfl<;>rfl
  rw[Fm.ug,m] at h;simp only[Nc,fX,Aw,if_true] at h
  by_cases c:a.vw (g++[s])=0
  ·exact .q i hs (d _ (hg.app hs) c)
  ·rw[ea c] at h;exact absurd h c
def Cr{g:List Ty}{f:Fm}(h:k4 g f):iR g->g.length+f.ab'<=1000000->f.vw g=0:=by
 induction h with
 |eq l m=>
  intro hg c;rw[Fm.ef] at c;simp only[eE] at c;rw[Fm.ug];simp[fX,JU l hg (by omega),JU m hg (by omega)]
 |two d _ _ e i=>
  intro hg c;rw[Fm.ef] at c;simp only[eE] at c;rename_i k a b _ _
  have j:kQ k=false:=by rcases d with rfl|rfl<;>rfl
  rw[Fm.ug,j];simp[fX,e hg (by omega),i hg (by omega)]
 |q d hs _ n=>
  intro hg c;rw[Fm.ef] at c;simp only[eE] at c;rename_i k s a _
  have j:kQ k=true:=by rcases d with rfl|rfl|rfl|rfl<;>rfl
  rw[Fm.ug,j];simp[fX,n (hg.app hs) (by simp;omega)]
def k4.up{g:List Ty}{f:Fm}(h:k4 g f):∀g1 g2 e:List Ty,g=g1++g2->k4 (g1++e++g2) (f.up g2.length e.length):=by
 induction h with
 |eq l m=>
  intro g1 g2 e hg;rw[Fm.l7];exact .eq (l.up g1 g2 e hg) (m.up g1 g2 e hg)
 |two c _ _ d i=>
  intro g1 g2 e hg;rename_i k a b _ _
  have j:qB k=0:=by rcases c with rfl|rfl<;>rfl
  rw[Fm.l7,j,yA];exact .two c (d g1 g2 e hg) (i g1 g2 e hg)
 |q c hs _ n=>
  intro g1 g2 e hg;rename_i k s a _
  have j:qB k=1:=by rcases c with rfl|rfl|rfl|rfl<;>rfl
  subst hg;have:=n g1 (g2++[s]) e (by rw[uN]);rw[Fm.l7,j];rw[qY,<-uN] at this;exact .q c hs this
def k4.lift{g:List Ty}{f:Fm}(h:k4 g f)(e:List Ty):k4 (g++e) (f.up 0 e.length):=by
 have:=h.up g [] e (by simp);simpa using this
def k4.jX{g:List Ty}{f:Fm}(h:k4 g f):∀(g1:List Ty) (s:Ty) (g2:List Ty) (a:Tm),g=g1++[s]++g2->e_ g1 a s->k4 (g1++g2) (Fm.jX g2.length f a):=by
 induction h with
 |eq j l=>
  intro g1 s g2 a hg b;rw[Fm.ot];exact .eq (j.jX g1 s g2 a hg b) (l.jX g1 s g2 a hg b)
 |two c _ _ d e=>
  intro g1 s g2 a hg b;rename_i k x y _ _
  have i:qB k=0:=by rcases c with rfl|rfl<;>rfl
  rw[Fm.ot,i,yA];exact .two c (d g1 s g2 a hg b) (e g1 s g2 a hg b)
 |q c hs _ m=>
  intro g1 s g2 a hg b;rename_i k n x _
  have i:qB k=1:=by rcases c with rfl|rfl|rfl|rfl<;>rfl
  subst hg;have:=m g1 s (g2++[n]) a (by simp) b;rw[Fm.ot,i];rw[qY,<-uN] at this;exact .q c hs this
theorem k4.put{g:List Ty}{s:Ty}{f:Fm}(h:k4 (g++[s]) f){a:Tm}(b:e_ g a s):k4 g (Fm.jX 0 f a):=by
 have:=h.jX g s [] a (by simp) b;simpa using this
def e_.front{g:List Ty}{x:Tm}{t:Ty}(h:e_ g x t)(e:List Ty):e_ (e++g) x t:=by
 induction h with
 |@var g t i c j=>
  refine .var i (by simp;omega) ?_;rw[yy (by simp;omega),<-j]
  congr 1
  simp;omega
 |lam c _ d=>exact .lam c (by rw[uN];exact d)|app _ _ a b=>exact .app a b|zero=>exact .zero|succ _ d=>exact .succ d|uD c _ _ _ a b f=>exact .uD c a b f|nil=>exact .nil|cons _ _ a b=>exact .cons a b|fold c _ _ _ a b f=>exact .fold c a b f|pair c _ _ a b=>exact .pair c a b|fst _ d=>exact .fst d|snd _ d=>exact .snd d|unit=>exact .unit
def k4.front{g:List Ty}{f:Fm}(h:k4 g f)(e:List Ty):k4 (e++g) f:=by
 induction h with
 |eq d i=>exact .eq (d.front e) (i.front e)|two a _ _ b c=>exact .two a b c|q a hs _ j=>exact .q a hs (by rw[uN];exact j)
structure Hg (g:List Ty) (f:Fm):Prop where
 err:f.err=0
 ty:k4 g f
def Hg.ab'{g:List Ty}{f:Fm}(h:Hg g f):f.ab'<=4096:=(Fm.hV h.err).2
def Hg.ok{g:List Ty}{f:Fm}(h:Hg g f):f.ok=true:=(Fm.hV h.err).1
def Hg.ace{g:List Ty}{f:Fm}(h:Hg g f)(hg:g.length<=16){m:Int}(hm:5000<=m):f.ace m=true:=h.ty.ace m (by have:=h.ab';omega)
def Hg.hy{g:List Ty}{f:Fm}(h:Hg g f)(hg:g.length<=16):Hy f:=⟨h.err,h.ace hg (by omega)⟩
def Hg.up{g:List Ty}{f:Fm}(h:Hg g f)(l:List Ty):Hg (g++l) (f.up 0 l.length):=by
 have hn:=Fm.rj f 0 l.length;obtain⟨a,b⟩:=Fm.hV h.err;refine⟨?_,h.ty.lift l⟩;unfold Fm.err;rw[Fm.Jd f 0 l.length (by omega) (by omega),a,ee rfl,hn,ea (by omega)]
structure PG (L:List Fm) (p:eh) (c:en):Prop where
 pl:T6 p c
 HU:c.lemmas=L
 XQ:∀f∈L,Hg [] f
 acf:∀f∈c.acf,Hg c.acb f
def PG.RB{L:List Fm}{p:eh}{c:en}(h:PG L p c){l:List Ty}(j:iR l)(hn:c.acb.length+l.length<=16):∃d a,f_ p l=some d/\fK c l=some a/\PG L d a/\a.acb=c.acb++l/\a.acf=c.acf.map (Fm.up 0 l.length):=by
 obtain⟨d,a,k,m,n,o,g,i⟩:=h.pl.below j hn (λf b=>⟨(h.acf f b).err,(h.acf f b).ace h.pl.nv (by omega)⟩);refine⟨d,a,k,m,⟨n,o.trans h.HU,h.XQ,λf b=>?_⟩,g,i⟩;rw[i] at b;obtain⟨f0,e,rfl⟩:=oy.1 b;rw[g];exact(h.acf f0 e).up l
def PG.below{L:List Fm}{p:eh}{c:en}(h:PG L p c){s:Ty}(hs:s.err=0)(hn:c.acb.length+1<=16):∃b a,f_ p [s]=some b/\fK c [s]=some a/\PG L b a/\a.acb=c.acb++[s]/\a.acf=c.acf.map (Fm.up 0 1):=
 h.RB (l:=[s]) (λx d=>by rw[w4.1 d];exact hs) hn
def PG.with{L:List Fm}{p:eh}{c:en}(h:PG L p c){f:Fm}(d:Hg c.acb f)(hn:c.acf.length+1<=16):∃b a,gm p f=some b/\gE c f=some a/\PG L b a/\a.acb=c.acb/\a.acf=c.acf++[f]:=by
 obtain⟨b,a,i,j,k,l,e,g⟩:=h.pl.with (d.hy h.pl.nv) hn;refine⟨b,a,i,j,⟨k,l.trans h.HU,h.XQ,λx hx=>?_⟩,e,g⟩;rw[g] at hx;rw[e];rcases sR.1 hx with hx|hx
 ·exact h.acf x hx
 ·rw[w4.1 hx];exact d
def PG.room{L:List Fm}{p:eh}{c:en}(h:PG L p c){v k:Nat}(e:v<=100)(f:k<=100):(eV p.gn v k=some 0/\eT c v k=some 0/\c.acb.length+v<=16/\c.acf.length+k<=16)\/(eV p.gn v k=some 3/\eT c v k=some 3/\(16<c.acb.length+v\/16<c.acf.length+k)):=by
 unfold eV eT;have b:=h.pl.vars;have d:=h.pl.acf;have g:=h.pl.nv;have i:=h.pl.nh;rw[b,d,fR,fR,fq (by omega) (by omega),fq (by omega) (by omega),la]
 by_cases a:(nX ((c.acb.length:Int)+v) 16||nX ((c.acf.length:Int)+k) 16)=true
 ·rw[ee a];simp only[pO,gA] at a;exact .inr ⟨rfl,rfl,by omega⟩
 ·rw[ea a];simp only[pO,gA,not_or] at a;exact .inl ⟨rfl,rfl,by omega,by omega⟩
def CS.len{N:Int}:∀{l:List Int} {lo:Int},CS l->(∀x∈l,lo<=x/\x<N)->(l.length:Int)<=max 0 (N-lo)
 |[],lo,_,_=>by simp;omega|a::l,lo,.cons c d,h=>by
  have e:=h a (by simp);have f:=CS.len (lo:=a+1) d (λx b=>⟨by have:=c x b;omega,(h x (by simp[b])).2⟩);simp only[ld];omega
def Us.len{l:List Int}{m:Nat}(h:Us l m):l.length<=32:=by
 have:=CS.len (N:=32) (lo:=0) h.XB (λx a=>⟨h.pos x a,h.bound x a⟩);omega
def e_.G8{g:List Ty}{x:Tm}{t:Ty}(h:e_ g x t):∀j:Int,(g.length:Int)<=j->x.acg j=0:=by
 induction h with
 |@var g t i k l=>
  intro j a;rw[Tm.gU,ea (λh=>by have:=h.2;omega)];rfl
 |@lam g s b t k _ e=>
  intro j a;rw[Tm.gU,ea (λh=>by cases h.1)];simp only[eE];rw[e (j+gB 2) (by show _<=j+1;simp;omega)]
 |app _ _ c d=>intro j a;rw[Tm.gU,ea (λh=>by cases h.1)];simp only[eE,show gB 3=0 from rfl,yA,c j a,d j a]
 |zero=>intro j a;rw[Tm.gU,ea (λh=>by cases h.1)];rfl
 |succ _ e=>intro j a;rw[Tm.gU,ea (λh=>by cases h.1)];simp only[eE,show gB 5=0 from rfl,yA,e j a]
 |uD k _ _ _ c d f=>intro j a;rw[Tm.gU,ea (λh=>by cases h.1)];simp only[eE,show gB 6=0 from rfl,yA,c j a,d j a,f j a]
 |nil=>intro j a;rw[Tm.gU,ea (λh=>by cases h.1)];rfl
 |cons _ _ c d=>intro j a;rw[Tm.gU,ea (λh=>by cases h.1)];simp only[eE,show gB 8=0 from rfl,yA,c j a,d j a]
 |fold k _ _ _ c d f=>intro j a;rw[Tm.gU,ea (λh=>by cases h.1)];simp only[eE,show gB 9=0 from rfl,yA,c j a,d j a,f j a]
 |pair k _ _ c d=>intro j a;rw[Tm.gU,ea (λh=>by cases h.1)];simp only[eE,show gB 10=0 from rfl,yA,c j a,d j a]
 |fst _ e=>intro j a;rw[Tm.gU,ea (λh=>by cases h.1)];simp only[eE,show gB 11=0 from rfl,yA,e j a]
 |snd _ e=>intro j a;rw[Tm.gU,ea (λh=>by cases h.1)];simp only[eE,show gB 12=0 from rfl,yA,e j a]
 |unit=>intro j a;rw[Tm.gU,ea (λh=>by cases h.1)];rfl
def hY:Fm:=.mk 0 (.mk 0 []) [] []
def Lh(k:Option (ec×Int)):Option (ec×Int):=
 ek k λa b=>
 if(eW b 0)=true then(
 some ((ec.mk (Fm.mk 0 (Ty.mk 0 []) [] []) 0),b))
 else(cv (kG a.eg) λd=>
 if(eW d 0)=true then(
 some ((ec.mk (Fm.mk 0 (Ty.mk 0 []) [] []) 0),4))
 else(eK (λ(v30:Int)=>
 some ((ec.mk a.eg v30),0)) λc=>
 ek (pL a.eg) λe f=>
 if e=true then(
 c a.gi)
 else(c 0)))
def K_(r:Option (Fm×List Int×Int)):Option (sQ×Int):=
 iL r λb g f=>
 if(eW f 0)=true then(
 some ((sQ.mk (Fm.mk 0 (Ty.mk 0 []) [] []) []),f))
 else(cv (k5 b) λc=>
 if(eW c 0)=true then(
 some ((sQ.mk (Fm.mk 0 (Ty.mk 0 []) [] []) []),4))
 else(eK (λ(d:List Int)=>
 some ((sQ.mk b d),0)) λa=>
 ek (n_ b) λe h=>
 if e=true then(
 a g)
 else(a [])))
def CK{α:Type}{F:Int->α->Unit->Option (gj Unit Bool)}(w:α->Nat):∀(l:List α) (i:Nat),(∀j x,x∈l->F j x ()=if 0<w x then some (.ret true)else some (.next ()))->fp F l i ()=some (if 0<eE w l then .inr true else .inl ())
 |[],i,_=>rfl|x::l,i,h=>by
  have c:=CK w l (i+1) (λj y hy=>h j y (by simp[hy]));rw[fl,h i x (by simp)]
  by_cases a:0<w x
  ·rw[ee a,ee (show 0<eE w (x::l) by simp only[eE];omega)];rfl
  ·rw[ea a];show fp F l (i+1) ()=_;rw[c]
   by_cases b:0<eE w l
   ·rw[ee b,ee (show 0<eE w (x::l) by simp only[eE];omega)]
   ·rw[ea b,ea (show¬0<eE w (x::l) by simp only[eE];omega)]
def Ku:∀(n:Nat) (t:Tm) (a:Int),t.ab'<=n->t.ab'<=1000000000->0<=a->a+t.ab'<=10000000000->tq n t a=some (decide (0<t.acg a)):=by
 intro n
 induction n with
 |zero=>intro t a h;have:=t.eP;omega
 |succ n f=>
  intro t a h d o e;cases t with
  |mk k i s l=>
   rw[Tm.ef] at h d e;have p:=Tm.fF l;have q:=lH k;rw[tq,Tm.gU];simp only[Tm.eG,Tm.gx,Tm.eN,ez,ru,gI,gw]
   by_cases c:k=1/\i=a
   ·rw[ee c,ee c]
    congr 1
    exact(wa (by omega)).symm
   ·rw[ea c,ea c,eB (by omega),eo,CK (Tm.acg (a+gB k)) l 0 (λj x g=>by
     have m:=eI Tm.ab' g;rw[oE,cl,Tm.eN,fq (by omega) (by omega),f x (a+gB k) (by omega) (by omega) (by omega) (by omega),cl]
     by_cases b:0<x.acg (a+gB k)
     ·rw[ee b,ee (wa b)]
     ·rw[ea b,ea (by simpa using b)]),cl,uK]
    by_cases b:0<eE (Tm.acg (a+gB k)) l
    ·rw[ee b,p0,wa b]
    ·rw[ea b,ei,Dx b]
def CX:∀(n:Nat) (t:Fm) (a:Int),t.ab'<=n->t.ab'<=1000000000->0<=a->a+t.ab'<=10000000000->pF n t a=some (decide (0<t.acg a)):=by
 intro n
 induction n with
 |zero=>intro t a h;have:=t.eP;omega
 |succ n i=>
  intro t a h c o d;cases t with
  |mk k s ts l=>
   rw[Fm.ef] at h c d;have p:=Fm.fF l;have m:=Tm.fF ts;have q:=A5 k;rw[pF,Fm.gU];simp only[Fm.eG,Fm.hJ,ez]
   rw[eB (by omega),eo,CK (Tm.acg a) ts 0 (λj x e=>by
    have f:=eI Tm.ab' e;rw[Ku FU x a (by rw[fy];omega) (by omega) (by omega) (by omega),cl]
    by_cases b:0<x.acg a
    ·rw[ee b,ee (wa b)]
    ·rw[ea b,ea (by simpa using b)]),cl]
   by_cases g:0<eE (Tm.acg a) ts
   ·rw[ee g,p0,wa (by omega)]
   ·rw[ea g,ei,eB (by omega),eo,CK (Fm.acg (a+qB k)) l 0 (λj x e=>by
     have f:=eI Fm.ab' e;rw[ou,cl,Fm.eN,fq (by omega) (by omega),i x (a+qB k) (by omega) (by omega) (by omega) (by omega),cl]
     by_cases b:0<x.acg (a+qB k)
     ·rw[ee b,ee (wa b)]
     ·rw[ea b,ea (by simpa using b)]),cl]
    by_cases b:0<eE (Fm.acg (a+qB k)) l
    ·rw[ee b,p0,wa (by omega)]
    ·rw[ea b,ei,Dx (by omega)]
def Tm.Cv(s:Tm):∀(t:Tm) (n:Int),t.ok=true->t.acg n=0->Tm.jX n t s=t.up (n+1) (-1):=by
 intro t
 induction t using Tm.ind with
 |h k i ty l g=>
  intro n d e;have hi:=Tm.l_ d;rw[Tm.gU] at e;rw[Tm.ot,Tm.l7]
  by_cases a:k=1
  ·subst a;obtain⟨rfl,rfl⟩:=Tm.Sc d
   have b:i≠n:=λh=>by rw[ee ⟨rfl,h⟩] at e;omega
   rw[ee rfl];unfold Tm.vy;rw[ea b]
   by_cases f:n<i
   ·rw[ee f,ee ⟨rfl,by omega⟩];rfl
   ·rw[ea f,ea (λh=>by omega)];rfl
  ·rw[ea a,ea (λh=>a h.1)]
   congr 1
   refine xV λx c=>?_;have:=eI (Tm.acg (n+gB k)) c;rw[g x c (n+gB k) (hi.2.2.2.1 x c) (by omega),show n+gB k+1=n+1+gB k by omega]
def Fm.Cv(s:Tm):∀(t:Fm) (n:Int),t.ok=true->t.acg n=0->Fm.jX n t s=t.up (n+1) (-1):=by
 intro t
 induction t using Fm.ind with
 |h k ty ts l b=>
  intro n c d;obtain⟨_,e,f⟩:=Fm.rm c;rw[Fm.gU] at d;rw[Fm.ot,Fm.l7]
  congr 1
  ·refine xV λx a=>?_;have:=eI (Tm.acg n) a;exact Tm.Cv s x n (e x a) (by omega)
  ·refine xV λx a=>?_;have:=eI (Fm.acg (n+qB k)) a;rw[b x a (n+qB k) (f x a) (by omega),show n+qB k+1=n+1+qB k by omega]
def Le:∀(n:Nat) (t:Tm) (f:Int),t.ab'<=n->t.ab'<=1000000000->0<=f->f+t.ab'<=10000000000->t.ace 1000000000000=true->qg n t f (-1)=some (t.up f (-1)):=by
 intro n
 induction n with
 |zero=>intro t f h;have:=t.eP;omega
 |succ n o=>
  intro t f h a u b hi;cases t with
  |mk k i s l=>
   rw[Tm.ef] at h a b;rw[Tm.fo] at hi;simp only[gI,nq,kF] at hi;have w:=Tm.fF l;have y:=lH k;rw[qg];simp only[Tm.eG,Tm.gx,Tm.eN,Tm.fw,ez,eB (l:=l) (by omega),eo];rw[jz (Tm.up (f+gB k) (-1)) l 0 [] (by simp;omega)]
   ·rw[Tm.l7];simp only[cl,ei,o_,s7,Tm.mk.injEq,and_true,aaq]
    by_cases c:k=1/\f<=i
    ·obtain⟨rfl,d⟩:=c;rw[fq (by omega) (by omega)];have p:eH 1 1=true:=rfl
     have q:sN i f=true:=by simp[d]
     simp[p,q,d]
    ·rw[ea c]
     have e:fU (eH k 1) (sN i f) false=false:=by
      rw[ru,Ww];simp only[ne_eq,gI,gw,iU];exact c
     rw[e];rfl
   ·intro j x v g r;have:=eI Tm.ab' g;rw[oE];simp only[cl,Tm.eN];rw[fq (by omega) (by omega),o x (f+gB k) (by omega) (by omega) (by omega) (by omega) (hi.2 x g)];simp[fx (l:=v) (m:=[x.up (f+gB k) (-1)]) (by simpa using r)]
def CF:∀(n:Nat) (t:Fm) (f:Int),t.ab'<=n->t.ab'<=1000000000->0<=f->f+t.ab'<=10000000000->t.ace 1000000000000=true->hB n t f (-1)=some (t.up f (-1)):=by
 intro n
 induction n with
 |zero=>intro t f h;have:=t.eP;omega
 |succ n e=>
  intro t f h b g c hi;cases t with
  |mk k s ts l=>
   rw[Fm.ef] at h b c;rw[Fm.fo] at hi;simp only[gI,kF] at hi;have o:=Fm.fF l;have i:=Tm.fF ts;have p:=A5 k;rw[hB];simp only[Fm.eG,Fm.hJ,Fm.eN,Fm.fw,ez,eB (l:=l) (by omega),eB (l:=ts) (by omega),eo];rw[jz (Tm.up f (-1)) ts 0 [] (by simp;omega)]
   ·simp only[cl,ei];rw[jz (Fm.up (f+qB k) (-1)) l 0 [] (by simp;omega)]
    ·simp[Fm.l7]
    ·intro j x v a d;have:=eI Fm.ab' a;rw[ou];simp only[cl,Fm.eN];rw[fq (by omega) (by omega),e x (f+qB k) (by omega) (by omega) (by omega) (by omega) (hi.2 x a)];simp[fx (l:=v) (m:=[x.up (f+qB k) (-1)]) (by simpa using d)]
   ·intro j x v a d;have:=eI Tm.ab' a;rw[Le FU x f (by rw[fy];omega) (by omega) g (by omega) (hi.1 x a)];simp[fx (l:=v) (m:=[x.up f (-1)]) (by simpa using d)]
def PO:Gs Tm.z:=by
 show Gs (Tm.mk 0 0 (Ty.mk 0 []) []);intro c b d;have a:FU=999999999+1:=fy;unfold rY oU;rw[a,ia,ea (show¬(eH (Tm.mk 0 0 (Ty.mk 0 []) []).ab9 1=true) by decide)];simp only[Tm.eN,Tm.fw,Tm.eG,Tm.gx,ez];rw[pK (by decide),cl,eB (by decide),eo];rfl
def tW{f:Fm}(a:f.ok=true)(hn:f.ab'<=50000000)(b:f.ace 1000000000000=true)(c:f.acg 0=0):k7 f 0 (Tm.mk 0 0 (Ty.mk 0 []) [])=some (f.up 1 (-1)):=by
 rw[show Tm.mk 0 0 (Ty.mk 0 []) []=Tm.z from rfl,vi a hn b PO (by omega) (by omega),Fm.Cv _ f 0 a c];rfl
noncomputable def BX (x:Tm) (e:Int):Tm×Int:=if e=0 then((x.norm 1000 0).1,(x.norm 1000 0).2.2)else(x,e)
def qI{α:Type}(f:α->Int->α×Int):List α->Int->List α×Int
 |[],e=>([],e)|x::l,e=>((f x e).1::(qI f l (f x e).2).1,(qI f l (f x e).2).2)
mutual
noncomputable def Fm.xS:Fm->Int->Fm×Int
 |.mk k s ts l,e=>(.mk k s (qI BX ts e).1 (Fm.Nz l (qI BX ts e).2).1,(Fm.Nz l (qI BX ts e).2).2)
noncomputable def Fm.Nz:List Fm->Int->List Fm×Int
 |[],e=>([],e)|f::l,e=>((f.xS e).1::(Fm.Nz l (f.xS e).2).1,(Fm.Nz l (f.xS e).2).2)
end
def Fm.Pn:∀(l:List Fm) (e:Int),Fm.Nz l e=qI Fm.xS l e
 |[],e=>by rw[Fm.Nz,qI]|f::l,e=>by rw[Fm.Nz,qI,Fm.Pn l]
def Fm.Dz(k:Int)(s:Ty)(ts:List Tm)(l:List Fm)(e:Int):(Fm.mk k s ts l).xS e=(.mk k s (qI BX ts e).1 (qI Fm.xS l (qI BX ts e).2).1,(qI Fm.xS l (qI BX ts e).2).2):=by rw[Fm.xS,Fm.Pn]
def uR{α:Type}{f:α->Int->α×Int}:∀(l:List α) (e:Int),(∀x∈l,∀e,e≠0->(f x e).2=e)->e≠0->(qI f l e).2=e
 |[],e,_,_=>rfl|x::l,e,h,he=>by
  have a:=h x (by simp) e he;simp only[qI];rw[a];exact uR l e (λy hy=>h y (by simp[hy])) he
def FZ{x:Tm}{e:Int}(he:e≠0):(BX x e).2=e:=by unfold BX;rw[ea he]
def Fm.Na(f:Fm):∀e:Int,e≠0->(f.xS e).2=e:=by
 induction f using Fm.ind with
 |h k s ts l a=>
  intro e he;rw[Fm.Dz];have b:=uR (f:=BX) ts e (λx _ e he=>FZ he) he;simp only[];rw[b];exact uR l e a he
def DT{α ρ:Type}{E:α->Int->Option (α×Int)}{f:α->Int->α×Int}:∀(l:List α) (j:Nat) (v:List α) (e:Int),(∀x∈l,∀e,E x e=some (f x e))->v.length+l.length<=1000000000->fp (λ(k:Int) (c:α)=>(uv λ(v91:List α) (d:Int)=>
   ek (E c d) λa b=>
   gS (gr v91 [a])<|some ((.next ((gG v91 [a]),b)):gj ((List α)×Int) ρ))) l j (v,e)=some (.inl (v++(qI f l e).1,(qI f l e).2))
 |[],j,v,e,_,_=>by simp[qI]|x::l,j,v,e,h,m=>by
  simp only[ld] at m;rw[fl];simp only[uv];rw[h x (by simp) e];obtain⟨y,g,i⟩:∃y g,f x e=(y,g):=⟨_,_,rfl⟩;rw[i];rw[eb,fx (by simp;omega),eo];simp only[cl,ft];rw[gY];have:=DT (ρ:=ρ) l (j+1) (v++[y]) g (λz n=>h z (by simp[n])) (by simp;omega);rw[this];simp only[qI,i];simp
structure Nm (x:Tm):Prop where
 err:x.err=0
 ace:x.ace 536870912=true
def Nm.both{x:Tm}(h:Nm x):kI x 1000=some (x.norm 1000 0)/\mz x 1000=some (x.norm 1000 0):=by
 obtain⟨b,hn⟩:=tf h.err;have hw:=x.jF b;have a:=xr (t:=x) (by omega) 1000;rw[ee h.err,ee ⟨by omega,by omega,h.ace⟩] at a;obtain⟨p,m,e,c,d,_⟩:=y5 (t:=x) (by omega) 1000;have a:kI x 1000=some (x.norm 1000 0):=a;refine⟨a,?_⟩;rw[d,<-c,a]
def Ax{x:Tm}(h:Nm x)(b e:Int):ky x b e=some (BX x e):=by
 unfold ky BX
 by_cases he:e=0
 ·rw[ee he,ea (by rw[ey];simpa using he),h.both.1];rfl
 ·rw[ea he,ee (by rw[ey];exact he)]
inductive QE:Fm->Prop
 |mk {k s ts l}:(∀x∈ts,Nm x)->(∀f∈l,QE f)->QE (.mk k s ts l)
def QE.of(f:Fm):f.ab'<=4096->f.ok=true->f.ace 536870912=true->QE f:=by
 induction f using Fm.ind with
 |h k s ts l d=>
  intro hn e b;obtain⟨_,g,i⟩:=Fm.rm e;rw[Fm.ef] at hn;rw[Fm.fo,gI,kF,kF] at b;refine .mk (λx c=>⟨?_,b.1 x c⟩) (λf a=>?_)
  ·have:=eI Tm.ab' c;unfold Tm.err;rw[ee (g x c),ea (by omega)]
  ·have:=eI Fm.ab' a;exact d f a (by omega) (i f a) (b.2 f a)
def Lq:∀(n:Nat) (f:Fm) (b e:Int),f.ab'<=n->f.ab'<=1000000->f.ok=true->QE f->fv n f b (λ(s:Int) (c:Tm) (d:Int)=>ky c d s) e=some (f.xS e):=by
 intro n
 induction n with
 |zero=>intro f b e h;have:=f.eP;omega
 |succ n m=>
  intro f b e hn o p hm;cases f with
  |mk k s ts l=>
   cases hm with
   |mk q r=>
    rw[Fm.ef] at hn o;have u:=ic Tm.ab' ts λt _=>t.eP;have v:=ic Fm.ab' l λt _=>t.eP;obtain⟨w,z,g⟩:=Fm.rm p;rw[fv,Fm.Dz];simp only[Fm.fw,Fm.eG,Fm.eN,Fm.hJ,ez];rw[pK (by omega),cl,eB (by omega),eo];rw[DT (E:=λy s=>ky y b s) (f:=BX) ts 0 [] e (λx a e=>Ax (q x a) b e) (by simp;omega),cl];simp only[ei,uv,o_];rw[oW,cl]
    have loop:=λi=>DT (ρ:=Fm×Int) (E:=λy s=>fv n y i (λ(s:Int) (c:Tm) (d:Int)=>ky c d s) s) (f:=Fm.xS) l 0 [] (qI BX ts e).2 (λx a e=>by
     have:=eI Fm.ab' a
     exact m x i e (by omega) (by omega) (g x a) (r x a)) (by simp;omega)
    by_cases j:kQ k=true
    ·rw[ee j,eB (by omega),eo,loop,cl];simp
    ·rw[ea j,eB (by omega),eo,loop,cl];simp
def E9:∀(n:Nat) (f:Fm),f.ab'<=n->f.ab'<=1000000->QE f->mC n f=some (if(f.xS 0).2=0 then((f.xS 0).1,0)else(hY,(f.xS 0).2)):=by
 intro n
 induction n with
 |zero=>intro f h;have:=f.eP;omega
 |succ n H=>
  intro f hn I hm;cases f with
  |mk k s ts l=>
   cases hm with
   |mk J K=>
    rw[Fm.ef] at hn I;have L:=ic Tm.ab' ts λt _=>t.eP;have M:=ic Fm.ab' l λt _=>t.eP;rw[mC,Fm.Dz];simp only[Fm.fw,Fm.eG,Fm.eN,Fm.hJ,ez];rw[eB (by omega),eo]
    have p:∀(us:List Tm) (j:Nat) (v:List Tm),(∀t∈us,Nm t)->v.length+us.length<=1000000000->fp (λ(N:Int) (B:Tm)=>(λ(w:List Tm)=>
       iL (mz B 1000) λc E d=>
       if(eW d 0)=true then(
       some (.ret ((Fm.mk 0 (Ty.mk 0 []) [] []),d)))
       else(gS (gr w [c])<|some ((.next (gG w [c])):gj (List Tm) (Fm×Int))))) us j v=some (if(qI BX us 0).2=0 then .inl (v++(qI BX us 0).1)else .inr (hY,(qI BX us 0).2)):=by
     intro us
     induction us with
     |nil=>intro j v _ _;simp[qI]|cons t us q=>
      intro j v hm C;simp only[ld] at C;rw[fl,(hm t (by simp)).both.2]
      have D:BX t 0=((t.norm 1000 0).1,(t.norm 1000 0).2.2):=by unfold BX;rw[ee rfl]
      obtain⟨y,m,a,z⟩:∃y m a,t.norm 1000 0=(y,m,a):=⟨_,_,_,rfl⟩;rw[z] at D|-;rw[ov]
      by_cases he:a=0
      ·subst he;rw[ea (by decide),fx (by simp;omega),eo];simp only[cl,ft];rw[gY,q (j+1) (v++[y]) (λu hu=>hm u (by simp[hu])) (by simp;omega)];simp only[qI,D];simp
      ·rw[ee (by rw[ey];exact he)];simp only[qI,D];rw[uR (f:=BX) us a (λx _ e he=>FZ he) he,ea he];rfl
    have r:∀(us:List Fm) (j:Nat) (v:List Fm),(∀t∈us,QE t/\t.ab'<=n/\t.ab'<=1000000)->v.length+us.length<=1000000000->fp (λ(F:Int) (A:Fm)=>(λ(g:List Fm)=>
       ek (mC n A) λi o=>
       if(eW o 0)=true then(
       some (.ret ((Fm.mk 0 (Ty.mk 0 []) [] []),o)))
       else(gS (gr g [i])<|some ((.next (gG g [i])):gj (List Fm) (Fm×Int))))) us j v=some (if(qI Fm.xS us 0).2=0 then .inl (v++(qI Fm.xS us 0).1)else .inr (hY,(qI Fm.xS us 0).2)):=by
     intro us
     induction us with
     |nil=>intro j v _ _;simp[qI]|cons t us q=>
      intro j v hm C;simp only[ld] at C;obtain⟨a1,a2,a3⟩:=hm t (by simp);rw[fl,H t a2 a3 a1];obtain⟨y,a,z⟩:∃y a,t.xS 0=(y,a):=⟨_,_,rfl⟩;rw[z]
      by_cases he:a=0
      ·subst he;simp only[if_true];rw[eb,ea (by decide),fx (by simp;omega),eo];simp only[cl,ft];rw[gY,q (j+1) (v++[y]) (λu hu=>hm u (by simp[hu])) (by simp;omega)];simp only[qI,z];simp
      ·simp only[ea he];rw[eb,ee (by rw[ey];exact he)];simp only[qI,z];rw[uR (f:=Fm.xS) us a (λx _ e he=>Fm.Na x e he) he,ea he];rfl
    rw[p ts 0 [] J (by simp;omega),cl]
    by_cases he:(qI BX ts 0).2=0
    ·rw[ee he,ei,eB (by omega),eo,r l 0 [] (λt G=>by
      have:=eI Fm.ab' G
      exact⟨K t G,by omega,by omega⟩) (by simp;omega),cl,he]
     by_cases b:(qI Fm.xS l 0).2=0
     ·rw[ee b,ee b,ei,o_,o_]
     ·rw[ea b,ea b,p0]
    ·rw[ea he,p0,uR (f:=Fm.xS) l _ (λx _ e he=>Fm.Na x e he) he,ea he]
def Ty.ZE:∀(n:Nat) (s:Ty),s.ab'<=n->s.err=0->∃a,e_ [] a s:=by
 intro n
 induction n with
 |zero=>intro s h;have:=s.eP;omega
 |succ n c=>
  intro s hn he;rcases Ty.rG he with rfl|rfl|rfl|⟨a,b,rfl,e,d⟩|⟨a,b,rfl,e,d⟩
  ·exact⟨_,.zero⟩
  ·exact⟨_,.nil⟩
  ·exact⟨_,.unit⟩
  ·rw[Ty.vb] at hn;obtain⟨x,f⟩:=c a (by omega) e;obtain⟨y,hy⟩:=c b (by omega) d;exact⟨_,.pair he f hy⟩
  ·rw[Ty.j3] at hn;obtain⟨y,hy⟩:=c b (by omega) d;exact⟨_,.lam he (by have:=hy.front [a];simpa using this)⟩
def k4.down{g:List Ty}{s:Ty}{f:Fm}(h:k4 (g++[s]) f)(hs:s.err=0)(c:f.acg 0=0):k4 g (f.up 1 (-1)):=by
 obtain⟨a,d⟩:=Ty.ZE _ s (jo _) hs
 have b:e_ g a s:=by simpa using d.front g
 have:=h.put b
 rwa [Fm.Cv a f 0 h.ok c] at this
def e_.nm{g:List Ty}{x:Tm}{t:Ty}(h:e_ g x t)(hg:g.length<=1000000)(a:x.ab'<=4096):Nm x:=by
 refine⟨?_,h.ace _ (by omega)⟩;unfold Tm.err;rw[ee h.ok,ea (by omega)]
def Rr{g:List Ty}{x:Tm}{t:Ty}(h:e_ g x t)(hg:g.length<=1000000)(b:x.ab'<=4096){e:Int}(he:(BX x e).2=0):e=0/\e_ g (BX x e).1 t/\(BX x e).1.ab'<=4096:=by
 by_cases c:e=0
 ·subst c;unfold BX at he|-;simp only[if_true] at he|-;obtain⟨a,n,f,d⟩:∃a n f,x.norm 1000 0=(a,n,f):=⟨_,_,_,rfl⟩;rw[d] at he|-;simp only[] at he|-;subst he;exact⟨trivial,e_.norm _ _ _ _ _ h d,(Fz 1000 536870912 0 x a n (by omega) (Sm.start (h.nm hg b).err (h.nm hg b).ace) b d).2⟩
 ·rw[FZ c] at he;exact absurd he c
def Ul(a b:Tm)(e:Int):(Fm.mk 1 .z [a,b] []).xS e=(.mk 1 .z [(BX a e).1,(BX b (BX a e).2).1] [],(BX b (BX a e).2).2):=by rw[Fm.Dz];rfl
def UU(k:Int)(a b:Fm)(e:Int):(Fm.mk k .z [] [a,b]).xS e=(.mk k .z [] [(a.xS e).1,(b.xS (a.xS e).2).1],(b.xS (a.xS e).2).2):=by rw[Fm.Dz];rfl
def Zw(k:Int)(s:Ty)(a:Fm)(e:Int):(Fm.mk k s [] [a]).xS e=(.mk k s [] [(a.xS e).1],(a.xS e).2):=by rw[Fm.Dz];rfl
def Nq{g:List Ty}{f:Fm}(h:k4 g f):∀(e:Int),g.length+f.ab'<=1000000->f.ab'<=4096->(f.xS e).2=0->e=0/\k4 g (f.xS e).1/\(f.xS e).1.ab'<=3000*f.ab':=by
 induction h with
 |@eq g a b c n=>
  intro e hg hn he;rw[Ul] at he|-;rw[Fm.ef] at hn hg|-;simp only[eE] at hn hg|-;obtain⟨d,i,o⟩:=Rr n (by omega) (by omega) he;obtain⟨a1,a2,a3⟩:=Rr c (by omega) (by omega) d;refine⟨a1,.eq a2 i,?_⟩;rw[Fm.ef];simp only[eE];have:=a.eP;have:=b.eP;omega
 |@two g k a b j c n l m=>
  intro e hg hn he;rw[UU] at he|-;rw[Fm.ef] at hn hg|-;simp only[eE] at hn hg|-;obtain⟨d,i,o⟩:=m _ (by omega) (by omega) he;obtain⟨a1,a2,a3⟩:=l _ (by omega) (by omega) d;refine⟨a1,.two j a2 i,?_⟩;rw[Fm.ef];simp only[eE];omega
 |@q g k s a j hs c p=>
  intro e hg hn he;rw[Zw] at he|-;rw[Fm.ef] at hn hg|-;simp only[eE] at hn hg|-;obtain⟨a1,a2,a3⟩:=p _ (by simp;omega) (by omega) he;refine⟨a1,.q j hs a2,?_⟩;rw[Fm.ef];simp only[eE];omega
noncomputable def Cc (f:Fm):Fm×Int:=if f.acg 0=0 then(f.up 1 (-1),0)else if(f.xS 0).2≠0 then(hY,(f.xS 0).2)else if(f.xS 0).1.acg 0≠0 then(hY,6)else((f.xS 0).1.up 1 (-1),0)
def JR{g:List Ty}{s:Ty}{f:Fm}(h:Hg (g++[s]) f)(hg:g.length<=1000)(hs:s.err=0)(a:(Cc f).2=0):k4 g (Cc f).1/\(Cc f).1.ab'<=3000*4096:=by
 have hn:=h.ab';unfold Cc at a|-
 split
 ·rename_i c;refine⟨h.ty.down hs c,?_⟩;show(f.up 1 (-1)).ab'<=_;rw[Fm.rj];omega
 ·rename_i c;rw[ea c] at a
  split
  ·rename_i b;rw[ee b] at a;exact absurd a b
  ·rename_i b;rw[ea b] at a
   split
   ·rename_i d;rw[ee d] at a;cases a
   ·rename_i d;obtain⟨_,a2,a3⟩:=Nq h.ty 0 (by simp;omega) hn (w7.1 b);refine⟨a2.down hs (by omega),?_⟩;show((f.xS 0).1.up 1 (-1)).ab'<=_;rw[Fm.rj];omega
def wu{g:List Ty}{s:Ty}{f:Fm}(h:Hg (g++[s]) f)(hg:g.length<=1000):mY f=some (Cc f):=by
 have hn:=h.ab';have k:f.ace 1000000000000=true:=h.ty.ace _ (by simp;omega);unfold mY Cc;rw[qb h.ok (by omega) k (by omega) (by omega),cl]
 by_cases d:f.acg 0=0
 ·rw[ee d,ee (by rw[gw];omega),tW h.ok (by omega) k d];rfl
 ·rw[ea d,ea (by rw[gw];omega),Lq FU f 0 0 (by rw[fy];omega) (by omega) h.ok (QE.of f hn h.ok (h.ty.ace _ (by simp;omega)))];obtain⟨a,e,i⟩:∃a e,f.xS 0=(a,e):=⟨_,_,rfl⟩;rw[i,eb];simp only[]
  by_cases he:e=0
  ·subst he;rw[ea (by decide),ea (by decide)];have b:=Nq h.ty 0 (by simp;omega) hn (by rw[i]);rw[i] at b;obtain⟨_,a2,a3⟩:=b;have a2:k4 (g++[s]) a:=a2;have a3:a.ab'<=3000*f.ab':=a3;have c:a.ace 1000000000000=true:=a2.ace _ (by simp;omega);rw[qb a2.ok (by omega) c (by omega) (by omega),cl]
   by_cases j:a.acg 0=0
   ·rw[ea (by rw[gA];omega),ea (by simpa using j),tW a2.ok (by omega) c j];rfl
   ·rw[ee (by rw[gA];omega),ee j];rfl
  ·rw[ee (by rw[ey];exact he),ee he];rfl
abbrev PR:=(Fm×Nat)⊕Int
def pbind(r:PR)(k:Fm->Nat->PR):PR:=match r with|.inl p=>k p.1 p.2|.inr e=>.inr e
def vZ(c:Prop)[Decidable c](e:Int)(r:PR):PR:=if c then .inr e else r
theorem lD{c:Prop}[Decidable c]{e:Int}{r:PR}(h:c):vZ c e r=.inr e:=ee h
theorem nx{c:Prop}[Decidable c]{e:Int}{r:PR}(h:¬c):vZ c e r=r:=ea h
def lC(e:Int)(r:PR):PR:=if e=0 then r else .inr e
@[simp] theorem hR(f:Fm)(m:Nat)(k:Fm->Nat->PR):pbind (.inl (f,m)) k=k f m:=rfl
theorem jt{e:Int}{r:PR}(h:e=0):lC e r=r:=ee h
theorem kg{e:Int}{r:PR}(h:e≠0):lC e r=.inr e:=ea h
noncomputable def Im (r:PR):PR:=pbind r λf m=>if f.err=0 then .inl (f,if f.has=true then m else 0)else .inr 4
def Dg(r:PR)(k:Int):PR:=pbind r λf m=>if f.ab9=k then .inl (f,m)else .inr 10
noncomputable def y0 (a b:Fm):Int:=(jd a b).getD 0
noncomputable def IZ (r:PR) (F:Fm) (t:Tm):PR:=pbind r λf m=>lC (oe F t).2 (lC (y0 (oe F t).1 f) (.inl (f,m)))
def JN(t:Tm):Nat->Nat
 |0=>0|j+1=>if 0<t.acg j then JN t j|||2^j else JN t j
def q4(t:Tm):Nat:=JN t 32
def Jv(t:Tm):∀(n i:Nat),(JN t n).testBit i=true↔i<n/\0<t.acg i
 |0,i=>by simp[JN]|n+1,i=>by
  have c:=Jv t n i;rw[JN]
  by_cases h:0<t.acg n
  ·rw[ee h,ZQ,pO,c,OG];simp only[nq];constructor
   ·rintro(⟨a,b⟩|rfl)
    ·exact⟨by omega,b⟩
    ·exact⟨by omega,h⟩
   ·rintro⟨a,b⟩
    by_cases hi:n=i
    ·exact .inr hi
    ·exact .inl ⟨by omega,b⟩
  ·rw[ea h,c];constructor
   ·rintro⟨a,b⟩;exact⟨by omega,b⟩
   ·rintro⟨a,b⟩;refine⟨?_,b⟩;rcases sH i n with hh|hh
    ·exact hh
    ·obtain rfl:i=n:=by omega
     exact absurd b h
def Jh(t:Tm)(i:Nat):(q4 t).testBit i=true↔i<32/\0<t.acg i:=Jv t 32 i
def v0:Tm:=.mk 1 0 (.mk 0 []) []
def v1:Tm:=.mk 1 1 (.mk 0 []) []
noncomputable def qs (L:List Fm) (k i:Int) (s:Ty) (ts:List Tm) (fs:List Fm) (sub:Nat->List Ty->List Fm->PR) (g:List Ty) (hs:List Fm):PR:=
 let t:=ts.getD 0 Tm.z
 let F:=fs.getD 0 hY
 if k=1 then vZ ((hs.length:Int)<=i) 8 (.inl (hs.getD (hs.length-1-i.toNat) hY,0))
 else if k=2 then vZ ((L.length:Int)<=i) 9 (.inl (L.getD i.toNat hY,0))
 else if k=3 then pbind (sub 0 g hs) λa m=>pbind (sub 1 g hs) λb n=>.inl (.mk 2 .z [] [a,b],m|||n)
 else if k=4 then pbind (Dg (sub 0 g hs) 2) λa m=>.inl (a.ab_.getD 0 hY,m)
 else if k=5 then pbind (Dg (sub 0 g hs) 2) λa m=>.inl (a.ab_.getD 1 hY,m)
 else if k=6 then lC (F.vw g) (vZ (16<hs.length+1) 3 (pbind (sub 0 g (hs++[F])) λb m=>.inl (.mk 3 .z [] [F,b],m)))
 else if k=7 then pbind (Dg (sub 0 g hs) 3) λa m=>pbind (sub 1 g hs) λb n=>lC (y0 (a.ab_.getD 0 hY) b) (.inl (a.ab_.getD 1 hY,m|||n))
 else if k=8 then vZ (16<g.length+1) 3 (pbind (sub 0 (g++[s]) (hs.map (Fm.up 0 1))) λb m=>.inl (.mk 4 s [] [b],m/2))
 else if k=12 then vZ (16<g.length+1) 3 (pbind (sub 0 (g++[s]) (hs.map (Fm.up 0 1))) λb m=>vZ (m.testBit 0=true) 12 (.inl (.mk 6 s [] [b],m/2)))
 else if k=9 then lC (t.ty g).2 (pbind (Dg (sub 0 g hs) 4) λa m=>vZ ((t.ty g).1.lS a.dv=false) 7 (lC (oe (a.ab_.getD 0 hY) t).2 (.inl ((oe (a.ab_.getD 0 hY) t).1,m|||q4 t))))
 else if k=13 then lC (t.ty g).2 (pbind (Dg (sub 0 g hs) 6) λa m=>vZ ((t.ty g).1.lS a.dv=false) 7 (lC (oe (a.ab_.getD 0 hY) t).2 (.inl ((oe (a.ab_.getD 0 hY) t).1,m))))
 else if k=10 then lC (F.vw g) (vZ (F.ab9≠5) 10 (lC (t.ty g).2 (vZ ((t.ty g).1.lS F.dv=false) 7 (pbind (IZ (sub 0 g hs) (F.ab_.getD 0 hY) t) λ_ m=>.inl (F,m|||q4 t)))))
 else if k=14 then lC (F.vw g) (vZ (F.ab9≠7) 10 (lC (t.ty g).2 (vZ ((t.ty g).1.lS F.dv=false) 7 (pbind (IZ (sub 0 g hs) (F.ab_.getD 0 hY) t) λ_ m=>.inl (F,m)))))
 else if k=11 then pbind (Dg (sub 0 g hs) 5) λa m=>vZ (16<g.length+1\/16<hs.length+1) 3 (pbind (sub 1 (g++[a.dv]) (hs.map (Fm.up 0 1)++[a.ab_.getD 0 hY])) λb n=>lC (Cc b).2 (.inl ((Cc b).1,m|||n/2)))
 else if k=15 then pbind (Dg (sub 0 g hs) 7) λa m=>vZ (16<g.length+1\/16<hs.length+1) 3 (pbind (sub 1 (g++[a.dv]) (hs.map (Fm.up 0 1)++[a.ab_.getD 0 hY])) λb n=>lC (Cc b).2 (vZ (n.testBit 0=true) 12 (.inl ((Cc b).1,m|||n/2))))
 else if k=16 then lC (F.vw (g++[.nat])) (lC (pQ t g 1) (pbind (IZ (sub 0 g hs) F ve) λ_ m=>vZ (16<g.length+1\/16<hs.length+1) 3 (
  pbind (IZ (sub 1 (g++[.nat]) (hs.map (Fm.up 0 1)++[F])) (F.up 1 1) (kc v0)) λ_ n=>lC (oe F t).2 (.inl ((oe F t).1,(q4 t|||m)|||n/2)))))
 else if k=17 then lC (F.vw (g++[.nK])) (lC (pQ t g 2) (pbind (IZ (sub 0 g hs) F (.mk 7 0 .z [])) λ_ m=>vZ (16<g.length+2\/16<hs.length+1) 3 (
  pbind (IZ (sub 1 (g++[.nat]++[.nK]) (hs.map (Fm.up 0 2)++[F.up 1 1])) (F.up 1 2) (.mk 8 0 .z [v1,v0])) λ_ n=>lC (oe F t).2 (.inl ((oe F t).1,(q4 t|||m)|||n/4)))))
 else if k=18 then lC (pQ t g 1) (.inl (.mk 1 .z [t,t] [],0))
 else if k=19 then lC (F.vw (g++[.nat])) (pbind (Dg (sub 0 g hs) 1) λa _=>pbind (IZ (sub 1 g hs) F (a.ej.getD 0 Tm.z)) λ_ n=>lC (oe F (a.ej.getD 1 Tm.z)).2 (.inl ((oe F (a.ej.getD 1 Tm.z)).1,n)))
 else pbind (Dg (sub 0 g hs) 4) λa m=>vZ ((a.ab_.getD 0 hY).ab9≠5) 10 (vZ ((Ty.fn a.dv (a.ab_.getD 0 hY).dv).err≠0) 4 (vZ ((oe (((a.ab_.getD 0 hY).ab_.getD 0 hY).up 2 1) (iV v1 v0)).2≠0) 4 (.inl (.mk 5 (Ty.fn a.dv (a.ab_.getD 0 hY).dv) [] [.mk 4 a.dv [] [(oe (((a.ab_.getD 0 hY).ab_.getD 0 hY).up 2 1) (iV v1 v0)).1]],m))))
mutual
noncomputable def Pf.inf (L:List Fm):Pf->List Ty->List Fm->PR
 |.mk k i s ts fs l,g,hs=>Im (qs L k i s ts fs (Pf.uC L l) g hs)
noncomputable def Pf.uC (L:List Fm):List Pf->Nat->List Ty->List Fm->PR
 |[],_,_,_=>.inr 2|p::_,0,g,hs=>p.inf L g hs|_::l,n+1,g,hs=>Pf.uC L l n g hs
end
def IRs(g:List Ty)(s:PR)(k:Option (ec×Int))(r:Option (sQ×Int)):Prop:=
 (∃e,e≠0/\s=.inr e/\k=some (⟨hY,0⟩,e)/\r=some (⟨hY,[]⟩,e))\/∃(f:Fm) (m:Nat) (l:List Int),s=.inl (f,m)/\k=some (⟨f,(m:Int)⟩,0)/\r=some (⟨f,l⟩,0)/\Us l m/\Hg g f
def mj(g:List Ty)(s:PR)(k:Option (ec×Int))(r:Option (Fm×List Int×Int)):Prop:=
 (∃e x f l,e≠0/\s=.inr e/\k=some (x,e)/\r=some (f,l,e))\/∃(f:Fm) (m:Nat) (l:List Int),s=.inl (f,m)/\k=some (⟨f,(m:Int)⟩,0)/\r=some (f,l,0)/\Us l m/\k4 g f/\f.ab'<=15000000
theorem mj.no{g:List Ty}{s:PR}{k:Option (ec×Int)}{r:Option (Fm×List Int×Int)}{e:Int}{x:ec}{f:Fm}{l:List Int}(he:e≠0)(a:s=.inr e)(b:k=some (x,e))(c:r=some (f,l,e)):mj g s k r:=.inl ⟨e,x,f,l,he,a,b,c⟩
def mj.yes{g:List Ty}{s:PR}{k:Option (ec×Int)}{r:Option (Fm×List Int×Int)}{f:Fm}{m:Nat}{l:List Int}(a:s=.inl (f,m))(b:k=some (⟨f,(m:Int)⟩,0))(c:r=some (f,l,0))(d:Us l m)(e:k4 g f)(h:f.ab'<=15000000):mj g s k r:=.inr ⟨f,m,l,a,b,c,d,e,h⟩
def mj.infer{g:List Ty}(hg:g.length<=16){s:PR}{k:Option (ec×Int)}{r:Option (Fm×List Int×Int)}(h:mj g s k r):IRs g (Im s) (Lh k) (K_ r):=by
 rcases h with⟨e,x,f,l,he,rfl,rfl,rfl⟩|⟨f,m,l,rfl,rfl,rfl,hu,b,hn⟩
 ·refine .inl ⟨e,he,rfl,?_,?_⟩
  ·unfold Lh;rw[eb,ee (by rw[ey];exact he)];rfl
  ·unfold K_;rw[ov,ee (by rw[ey];exact he)];rfl
 ·have c:=b.ok;have hw:=f.jF c;have i:=b.ace 1000000000000 (by omega);have d:Im (.inl (f,m))=if f.err=0 then .inl (f,if f.has=true then m else 0)else .inr 4:=rfl;unfold Lh K_;rw[eb,ov];simp only[ez];rw[ea (by decide),ea (by decide),lp (by omega),m6 (by omega),cl,cl]
  by_cases a:f.err=0
  ·rw[ea (by rw[ey];simp[a]),ea (by rw[ey];simp[a]),DD (by omega) i,xo _ (by omega),d,ee a];rw[ea (show¬(f.err≠0) by simpa using a),eb,eb];cases f.has with
   |true=>exact .inr ⟨f,m,l,rfl,rfl,rfl,hu,⟨a,b⟩⟩|false=>exact .inr ⟨f,0,[],rfl,rfl,rfl,.nil,⟨a,b⟩⟩
  ·rw[ee (by rw[ey];exact a),ee (by rw[ey];exact a),d,ea a];exact .inl ⟨4,by decide,rfl,rfl,rfl⟩
def jN(L:List Fm)(P:Pf)(N:Nat):Prop:=∀n n',N<=n->N<=n'->∀p c,PG L p c->IRs c.acb (P.inf L c.acb c.acf) (e9 n L P p) (eL n' c P)
def X1{f:Fm}{m:Nat}{k:Int}(h:f.ab9=k):Dg (.inl (f,m)) k=.inl (f,m):=by grind[Dg,hR]
def V3{f:Fm}{m:Nat}{k:Int}(h:f.ab9≠k):Dg (.inl (f,m)) k=.inr 10:=by grind[Dg,hR]
def nG{g:List Ty}{s:PR}{n:Nat}{L:List Fm}{P:Pf}{p:eh}{r:Option (sQ×Int)}(h:IRs g s (e9 n L P p) r)(k:Int):(∃e,e≠0/\Dg s k=.inr e/\fh (n+1) L P p k=some (⟨hY,0⟩,e)/\((r=some (⟨hY,[]⟩,e))\/∃f l m,r=some (⟨f,l⟩,0)/\f.ab9≠k/\e=10/\Us l m))\/∃(f:Fm) (m:Nat) (l:List Int),Dg s k=.inl (f,m)/\fh (n+1) L P p k=some (⟨f,(m:Int)⟩,0)/\r=some (⟨f,l⟩,0)/\Us l m/\Hg g f/\f.ab9=k:=by
 rcases h with⟨e,he,a,d,b⟩|⟨f,m,l,a,d,b,hu,i⟩
 ·refine .inl ⟨e,he,by rw[a];rfl,?_,.inl b⟩
  grind[fh,eb,ru,gw]
 ·by_cases c:f.ab9=k
  ·grind[Dg,hR,fh,eb,ru,ey]
  ·refine .inl ⟨10,by decide,by rw[a];unfold Dg;rw[hR,ea c],?_,.inr ⟨f,l,m,b,c,rfl,hu⟩⟩;rw[fh,d,eb,ee (by rw[ru,gI,ey,gw];exact⟨rfl,c⟩)];rfl
def J7{a b:Fm}(d:a.wt<=1000000000)(e:b.wt<=1000000000):jd a b=some (y0 a b)/\oN a b=some (y0 a b):=by
 obtain⟨c,f,g⟩:=BC d e
 have:y0 a b=c:=by unfold y0;rw[f];rfl
 grind
structure sU (g:List Ty) (F:Fm) (t:Tm):Prop where
 fe:F.err=0
 te:t.err=0
 ty:∃s,k4 (g++[s]) F/\e_ g t s
theorem sU.put{g:List Ty}{F:Fm}{t:Tm}(h:sU g F t):k4 g (Fm.jX 0 F t):=by
 obtain⟨s,a,b⟩:=h.ty;exact a.put b
def sU.both{g:List Ty}{F:Fm}{t:Tm}(h:sU g F t)(hg:g.length<=100):jl F t=some (oe F t)/\jZ F t=some (oe F t):=by
 obtain⟨s,c,d⟩:=h.ty;obtain⟨_,a2⟩:=Fm.hV h.fe;obtain⟨_,e⟩:=Tm.hV h.te;have a:F.ace 536870912=true:=c.ace _ (by simp;omega);have b:t.ace 536870912=true:=d.ace _ (by omega);refine⟨H0 h.fe h.te (Fm.mg F (by omega) a) (Tm.mg t (by omega) b),?_⟩;unfold jZ;rw[Hp h.fe h.te a b h.put.ok];rfl
theorem p7(F:Fm)(t:Tm):oe F t=(hY,4)\/(Fm.jX 0 F t).ab'<=4096/\oe F t=(Fm.jX 0 F t,0):=by
 unfold oe
 split
 ·exact .inl rfl
 ·grind
def sY{g:List Ty}(hg:g.length<=16){s:PR}{n n':Nat}{L:List Fm}{P:Pf}{p:eh}{c:en}(h:IRs g s (e9 n L P p) (eL n' c P)){F:Fm}{t:Tm}(q:sU g F t):(∃e x l m,e≠0/\IZ s F t=.inr e/\fi (n+1) L P p F t=some (x,e)/\fA (n'+1) c P F t=some (l,e)/\Us l m)\/∃(f:Fm) (m:Nat) (l:List Int),IZ s F t=.inl (f,m)/\fi (n+1) L P p F t=some (⟨f,(m:Int)⟩,0)/\fA (n'+1) c P F t=some (l,0)/\Us l m:=by
 obtain⟨i,k2⟩:=q.both (by omega);rcases h with⟨e,he,j,k,o⟩|⟨f,m,l,j,k,o,hu,r⟩
 ·refine .inl ⟨e,⟨hY,0⟩,[],0,he,by rw[j];rfl,?_,?_,.nil⟩
  ·rw[fi,k,eb,ee (by rw[ey];exact he)];rfl
  ·rw[fA,o,eb,ee (by rw[ey];exact he)]
 ·rcases p7 F t with d|⟨hn,d⟩
  ·rw[d] at i k2;refine .inl ⟨4,⟨hY,0⟩,[],0,by decide,?_,?_,?_,.nil⟩
   ·rw[j];unfold IZ;rw[hR,d];rfl
   ·rw[fi,k,eb,ea (by decide),i,eb,ee (by decide)];rfl
   ·rw[fA,o,eb,ea (by decide),k2,eb,ee (by decide)]
  ·rw[d] at i k2;have B:=Fm.jF _ q.put.ok;have C:=Fm.jF _ r.ok;have u:=r.ab';obtain⟨v,w⟩:=J7 (a:=Fm.jX 0 F t) (b:=f) (by omega) (by omega)
   have y:IZ s F t=lC (y0 (Fm.jX 0 F t) f) (.inl (f,m)):=by rw[j];unfold IZ;rw[hR,d,jt rfl]
   have z:fi (n+1) L P p F t=some (⟨f,(m:Int)⟩,y0 (Fm.jX 0 F t) f):=by
    rw[fi,k,eb,ea (by decide),i,eb,ea (by decide),v,cl]
   have A:fA (n'+1) c P F t=some (l,y0 (Fm.jX 0 F t) f):=by
    rw[fA,o,eb,ea (by decide),k2,eb,ea (by decide),w,cl]
   rw[y,z,A]
   by_cases hm:y0 (Fm.jX 0 F t) f=0
   ·rw[jt hm,hm];exact .inr ⟨f,m,l,rfl,rfl,rfl,hu⟩
   ·rw[kg hm];exact .inl ⟨_,_,_,m,hm,rfl,rfl,rfl,hu⟩
theorem C8{g:List Ty}(h:iR g)(hg:g.length<=16):w_ g=0:=by
 unfold w_;rw[ea (by omega)]
 induction g with
 |nil=>rfl|cons s g a=>
  have b:=h s (by simp);simp only[Aw,fX];rw[ee b];exact a (λx c=>h x (by simp[c])) (by simp at hg;omega)
def s6{g:List Ty}(a:iR g)(hg:g.length<=17){F:Fm}(hF:F.err=0):eX FU (g.map ti) F=some (F.vw g)/\k6 g F=some (F.vw g)/\(g.length<=16->jR g F=some (F.vw g)):=by
 obtain⟨a1,a2⟩:=Fm.hV hF;have hw:=F.jF a1;refine⟨wh F a1 FU (by rw[fy];omega) g a (by omega) a2,?_,λb=>?_⟩
 ·unfold k6;rw[m6 (by omega),hF,cl,ea (by decide),zD F a1 FU (by rw[fy];omega) g a (by omega) a2];rfl
 ·rw[sj (by omega) (by omega) (λt c=>by have:=fC (a t c);omega)];unfold EY
  grind[C8]
def nJ{g:List Ty}(a:iR g)(hg:g.length<=16){t:Tm}(b:t.err=0):eY FU (g.map ti) t=some (I5 (t.ty g))/\kS g t=some (t.ty g):=by
 obtain⟨a1,a2⟩:=Tm.hV b;refine⟨xk a1 a (by omega),?_⟩;unfold kS;rw[td g (by omega) (λt b=>by have:=fC (a t b);omega),C8 a hg,y8 a1 a2 a (by omega)];rfl
def has_both{g:List Ty}(b:iR g)(hg:g.length<=16){c:en}(a:c.acb=g){t:Tm}(d:t.err=0)(k:Int):iT (g.map ti) t k=some (pQ t g k)/\ij c t k=some (pQ t g k):=by
 obtain⟨a1,a2⟩:=Tm.hV d;refine⟨AX k a1 b (by omega),?_⟩;unfold ij pQ;rw[a,(nJ b hg d).2]
 grind[eb,ey]
def xT{g:List Ty}(hg:g.length<=16){t:Tm}{s:Ty}(h:e_ g t s)(b:t.err=0):∃l,kA t=some (q4 t:Int)/\kM t=some l/\Us l (q4 t):=by
 obtain⟨a1,a2⟩:=Tm.hV b;have a:∀j:Int,32<=j->t.acg j=0:=λj e=>h.G8 j (by omega);obtain⟨l,m,f,k,c,d⟩:=US b (h.ace _ (by omega)) a
 have:m=q4 t:=by
  refine Uv λi=>?_;rw[B5,<-c.mem i,d,Jh]
  grind
 grind
def nz:¬eW 0 0=true:=by decide
def qS(n:Nat)(a0:List Fm)(a1:Pf)(a2:eh):Option (ec×Int):=
 if eH a1.ab9 1=true then pd a0 a1 a2 else(if eH a1.ab9 2=true then nO a0 a1 a2 else(if eH a1.ab9 3=true then kZ n a0 a1 a2 else(if eH a1.ab9 4=true then iF n a0 a1 a2 else(if eH a1.ab9 5=true then iF n a0 a1 a2 else(if eH a1.ab9 6=true then kY n a0 a1 a2 else(if eH a1.ab9 7=true then kX n a0 a1 a2 else(if eH a1.ab9 8=true then il n a0 a1 a2 else(if eH a1.ab9 12=true then il n a0 a1 a2 else(if eH a1.ab9 9=true then ik n a0 a1 a2 else(if eH a1.ab9 13=true then ik n a0 a1 a2 else(if eH a1.ab9 10=true then iC n a0 a1 a2 else(if eH a1.ab9 14=true then iC n a0 a1 a2 else(if eH a1.ab9 11=true then iD n a0 a1 a2 else(if eH a1.ab9 15=true then iD n a0 a1 a2 else(if eH a1.ab9 16=true then iE n a0 a1 a2 else(if eH a1.ab9 17=true then iE n a0 a1 a2 else(if eH a1.ab9 18=true then oh a0 a1 a2 else(if eH a1.ab9 19=true then kv n a0 a1 a2 else(if eH a1.ab9 20=true then j0 n a0 a1 a2 else none)))))))))))))))))))
def W0(n:Nat)(L:List Fm)(P:Pf)(p:eh):e9 (n+1) L P p=Lh (qS n L P p):=by rw[e9];rfl
def VU(n:Nat)(c:en)(P:Pf):eL (n+1) c P=K_ (eF n c P):=by rw[eL];rfl
def Pf.m_(L:List Fm)(k i:Int)(s:Ty)(ts:List Tm)(fs:List Fm)(l:List Pf)(g:List Ty)(hs:List Fm):(Pf.mk k i s ts fs l).inf L g hs=Im (qs L k i s ts fs (Pf.uC L l) g hs):=by rw[Pf.inf]
def jN.of{L:List Fm}{k i:Int}{s:Ty}{ts:List Tm}{fs:List Fm}{l:List Pf}{N:Nat}
  (H:∀n n',N<=n->N<=n'->∀p c,PG L p c->mj c.acb (qs L k i s ts fs (Pf.uC L l) c.acb c.acf) (qS (n+4) L (.mk k i s ts fs l) p) (eF (n'+4) c (.mk k i s ts fs l))):jN L (.mk k i s ts fs l) (N+5):=by
 intro n n' hn b p c h;obtain⟨m,rfl⟩:∃m,n=m+5:=⟨n-5,by omega⟩;obtain⟨a,rfl⟩:∃a,n'=a+5:=⟨n'-5,by omega⟩;exact mj.infer h.pl.nv (H m a (by omega) (by omega) p c h)
def ZB(n:Nat)(c:en)(i:Int):eF (n+1) c (.mk 1 i .z [] [] [])=if(sN i (eM c.acf))=true then some (hY,[],8)else cv (eJ c.acf (fD .i64 (fD .i64 (eM c.acf) 1) i)) λa=>some (a,[],0):=by rw[eF];rfl
def Vx(L:List Fm)(i:Int)(g:List Ty)(hs:List Fm):qs L 1 i .z [] [] (Pf.uC L []) g hs=vZ ((hs.length:Int)<=i) 8 (.inl (hs.getD (hs.length-1-i.toNat) hY,0)):=rfl
def aan(n:Nat)(L:List Fm)(i:Int)(p:eh):qS n L (.mk 1 i .z [] [] []) p=ek (lh p i) λa b=>if b=true then some (⟨a,0⟩,0)else some (⟨hY,0⟩,8):=rfl
def Sz{L:List Fm}{i:Int}(hi:0<=i):jN L (.mk 1 i .z [] [] []) 5:=by
 refine jN.of (N:=0) λn n' _ _ p c h=>?_;rw[ZB,Vx,aan];have g:=h.pl.Nx hi
 by_cases e:(c.acf.length:Int)<=i
 ·grind[lD,eb,sN,eM,iU,fR,mj.no]
 ·rw[ea e] at g;obtain⟨f,d,k⟩:=g;rw[nx e,k,eb,ee rfl,ea (show¬(sN i (eM c.acf)=true) by rw[iU,fR];exact e),d,cl];have l:=h.pl.nh;rw[fR,fH (a:=(c.acf.length:Int)) (by omega) (by omega),fH (by omega) (by omega)] at d
  have b:c.acf.length-1-i.toNat<c.acf.length:=by omega
  rw[show(c.acf.length:Int)-1-i=((c.acf.length-1-i.toNat:Nat):Int) by omega,jj,oD b] at d
  have m:c.acf.getD (c.acf.length-1-i.toNat) hY=f:=by grind
  have j:=h.acf f (by rw[<-iy d];exact CG b);exact mj.yes (by rw[m]) rfl rfl .nil j.ty (by have:=j.ab';omega)
def Zx(n:Nat)(c:en)(i:Int):eF (n+1) c (.mk 2 i .z [] [] [])=if(sN i (eM c.lemmas))=true then some (hY,[],9)else cv (eJ c.lemmas i) λa=>some (a,[],0):=by rw[eF];rfl
def Vf(L:List Fm)(i:Int)(g:List Ty)(hs:List Fm):qs L 2 i .z [] [] (Pf.uC L []) g hs=vZ ((L.length:Int)<=i) 9 (.inl (L.getD i.toNat hY,0)):=rfl
def Zz(n:Nat)(L:List Fm)(i:Int)(p:eh):qS n L (.mk 2 i .z [] [] []) p=if(sN i (eM L))=true then some (⟨hY,0⟩,9)else cv (eJ L i) λa=>some (⟨a,0⟩,0):=rfl
def Tp{L:List Fm}{i:Int}(hi:0<=i):jN L (.mk 2 i .z [] [] []) 5:=by
 refine jN.of (N:=0) λn n' _ _ p c h=>?_;rw[Zx,Vf,Zz,h.HU]
 by_cases b:(L.length:Int)<=i
 ·grind[lD,iU,fR,mj.no]
 ·obtain⟨k,rfl⟩:∃k:Nat,i=k:=⟨i.toNat,by omega⟩
  have a:k<L.length:=by omega
  rw[nx b,ea (by rw[iU,fR];exact b),ea (by rw[iU,fR];exact b),jj,oD a,cl,cl]
  have e:L.getD (k:Int).toNat hY=L[k]:=by grind
  have d:=h.XQ _ (CG a);exact mj.yes (by rw[e]) rfl rfl .nil (by simpa using d.ty.front c.acb) (by have:=d.ab';omega)
def Xj(n:Nat)(c:en)(a b:Pf):eF (n+1) c (.mk 3 0 .z [] [] [a,b])=ek (eL n c a) λd e=>if(eW e 0)=true then some (hY,[],e)else ek (eL n c b) λf g=>cv (oo 2 d.eg f.eg) λh=>cv (gL d.gi f.gi) λi=>some (h,i,g):=by rw[eF];rfl
def R8(L:List Fm)(a b:Pf)(g:List Ty)(hs:List Fm):qs L 3 0 .z [] [] (Pf.uC L [a,b]) g hs=pbind (a.inf L g hs) λf m=>pbind (b.inf L g hs) λc n=>.inl (.mk 2 .z [] [f,c],m|||n):=rfl
def WO(n:Nat)(L:List Fm)(a b:Pf)(p:eh):qS (n+1) L (.mk 3 0 .z [] [] [a,b]) p=ek (e9 n L a p) λc d=>if(eW d 0)=true then some (⟨hY,0⟩,d)else ek (e9 n L b p) λe f=>if(eW f 0)=true then some (⟨hY,0⟩,f)else some (⟨.mk 2 .z [] [c.eg,e.eg],xj .u32 c.gi e.gi⟩,0):=by
 show kZ (n+1) L (.mk 3 0 .z [] [] [a,b]) p=_;rw[kZ];rfl
def Om:hY.wt<=1000000:=by decide
def P'{L:List Fm}{a b:Pf}{N:Nat}(t:jN L a N)(u:jN L b N):jN L (.mk 3 0 .z [] [] [a,b]) (N+5):=by
 refine jN.of λn n' hn v p c h=>?_;rw[Xj,R8,WO];rcases t (n+3) (n'+3) (by omega) (by omega) p c h with⟨e,he,d,g,i⟩|⟨f,m,l,d,g,i,hu,o⟩
 ·rw[d,g,i,eb,eb,ee (by rw[ey];exact he),ee (by rw[ey];exact he)];exact mj.no he rfl rfl rfl
 ·have w:=o.ab';have x:=f.jF o.ok;rw[d,g,i,eb,eb,ea (by decide),ea (by decide),hR];rcases u (n+3) (n'+3) (by omega) (by omega) p c h with⟨e,he,d,g,i⟩|⟨y,C,D,d,g,i,k,j⟩
  ·obtain⟨q,q1,_⟩:=hu.union .nil (by have:=hu.len;omega) (by simp);have:=Om;rw[d,g,i,eb,eb,ee (by rw[ey];exact he)];simp only[];rw[GG (by omega) (by omega),cl,q1];exact mj.no he rfl rfl rfl
  ·have r:=j.ab';have s:=y.jF j.ok;obtain⟨q,q1,A,B,_⟩:=hu.union k (by have:=hu.len;omega) (by have:=k.len;omega);rw[d,g,i,eb,eb,ea (by decide),hR];simp only[];rw[GG (by omega) (by omega),cl,q1,A];refine mj.yes rfl rfl rfl B (.two (.inl rfl) o.ty j.ty) ?_;rw[Fm.ef];simp only[eE];omega
def k4.Jx{g:List Ty}{f:Fm}(h:k4 g f){k:Int}(d:f.ab9=k)(e:k=2\/k=3):∃a b,f=.mk k .z [] [a,b]/\k4 g a/\k4 g b:=by
 cases h with
 |eq _ _=>grind[Fm.eN]|two c i j=>grind[Fm.eN]|q c _ _=>grind[Fm.eN]
def k4.wB{g:List Ty}{f:Fm}(h:k4 g f){k:Int}(d:f.ab9=k)(e:k=4\/k=5\/k=6\/k=7):∃s a,f=.mk k s [] [a]/\s.err=0/\k4 (g++[s]) a:=by
 cases h with
 |eq _ _=>grind[Fm.eN]|two b c i=>grind[Fm.eN]|q b hs c=>grind[Fm.eN]
def k4.Vv{g:List Ty}{f:Fm}(h:k4 g f)(i:f.ab9=1):∃a b,f=.mk 1 .z [a,b] []/\e_ g a .nat/\e_ g b .nat:=by
 cases h with
 |eq d e=>grind|two c d e=>simp_all|q c hs d=>simp_all
def Hg.sub{g a:List Ty}{k:Int}{s:Ty}{ts:List Tm}{l:List Fm}(h:Hg g (.mk k s ts l)){x:Fm}(c:x∈l)(b:k4 a x):Hg a x:=by
 have d:=h.ab';rw[Fm.ef] at d;have:=eI Fm.ab' c;refine⟨?_,b⟩;unfold Fm.err;rw[ee b.ok,ea (by omega)]
def Xu(n:Nat)(c:en)(a:Pf):eF (n+1) c (.mk 4 0 .z [] [] [a])=ek (eL n c a) λb d=>if(eW d 0)=true then some (hY,[],d)else if(eW b.eg.ab9 2)=true then some (hY,[],10)else cv (eJ b.eg.ab_ (fD .i64 4 4)) λe=>some (e,b.gi,0):=by rw[eF];rfl
def WN(n:Nat)(c:en)(a:Pf):eF (n+1) c (.mk 5 0 .z [] [] [a])=ek (eL n c a) λb d=>if(eW d 0)=true then some (hY,[],d)else if(eW b.eg.ab9 2)=true then some (hY,[],10)else cv (eJ b.eg.ab_ (fD .i64 5 4)) λe=>some (e,b.gi,0):=by rw[eF];rfl
def Sr(L:List Fm)(a:Pf)(g:List Ty)(hs:List Fm):qs L 4 0 .z [] [] (Pf.uC L [a]) g hs=pbind (Dg (a.inf L g hs) 2) λf m=>.inl (f.ab_.getD 0 hY,m):=rfl
def Ri(L:List Fm)(a:Pf)(g:List Ty)(hs:List Fm):qs L 5 0 .z [] [] (Pf.uC L [a]) g hs=pbind (Dg (a.inf L g hs) 2) λf m=>.inl (f.ab_.getD 1 hY,m):=rfl
def XM(n:Nat)(L:List Fm)(a:Pf)(p:eh):qS (n+1) L (.mk 4 0 .z [] [] [a]) p=ek (fh n L a p 2) λb c=>if(eW c 0)=true then some (⟨hY,0⟩,c)else cv (eJ b.eg.ab_ 0) λd=>some (⟨d,b.gi⟩,0):=by
 show iF (n+1) L (.mk 4 0 .z [] [] [a]) p=_;rw[iF];rfl
def XF(n:Nat)(L:List Fm)(a:Pf)(p:eh):qS (n+1) L (.mk 5 0 .z [] [] [a]) p=ek (fh n L a p 2) λb c=>if(eW c 0)=true then some (⟨hY,0⟩,c)else cv (eJ b.eg.ab_ 1) λd=>some (⟨d,b.gi⟩,0):=by
 show iF (n+1) L (.mk 5 0 .z [] [] [a]) p=_;rw[iF];rfl
def PJ{L:List Fm}{a:Pf}{N:Nat}(o:jN L a N):jN L (.mk 4 0 .z [] [] [a]) (N+5):=by
 refine jN.of λn n' hn q p c h=>?_;rw[Xu,Sr,XM];rcases nG (o (n+2) (n'+3) (by omega) (by omega) p c h) 2 with⟨e,he,d,g,b⟩|⟨f,m,l,d,g,b,hu,j,i⟩
 ·rw[d,g,eb,ee (by rw[ey];exact he)];rcases b with b|⟨f,l,m,b,i,rfl,_⟩
  ·rw[b,eb,ee (by rw[ey];exact he)];exact mj.no he rfl rfl rfl
  ·rw[b,eb,ea (by decide),ee (by rw[ey];exact i)];exact mj.no he rfl rfl rfl
 ·obtain⟨x,y,rfl,k,hy⟩:=j.ty.Jx i (.inl rfl);rw[d,g,b,eb,eb,ea (by decide),ea (by simp),hR];exact mj.yes (f:=x) rfl rfl rfl hu k (by have:=(j.sub (by simp) k).ab';omega)
def QM{L:List Fm}{a:Pf}{N:Nat}(k:jN L a N):jN L (.mk 5 0 .z [] [] [a]) (N+5):=by
 refine jN.of λn n' hn o p c h=>?_;rw[WN,Ri,XF];rcases nG (k (n+2) (n'+3) (by omega) (by omega) p c h) 2 with⟨e,he,d,g,b⟩|⟨f,m,l,d,g,b,hu,j,i⟩
 ·rw[d,g,eb,ee (by rw[ey];exact he)];rcases b with b|⟨f,l,m,b,i,rfl,_⟩
  ·rw[b,eb,ee (by rw[ey];exact he)];exact mj.no he rfl rfl rfl
  ·rw[b,eb,ea (by decide),ee (by rw[ey];exact i)];exact mj.no he rfl rfl rfl
 ·obtain⟨x,y,rfl,q,hy⟩:=j.ty.Jx i (.inl rfl);rw[d,g,b,eb,eb,ea (by decide),ea (by simp),hR];exact mj.yes (f:=y) rfl rfl rfl hu hy (by have:=(j.sub (by simp) hy).ab';omega)
def Xo(n:Nat)(c:en)(F:Fm)(a:Pf):eF (n+1) c (.mk 6 0 .z [] [F] [a])=cv (jR c.acb F) λb=>if(eW b 0)=true then some (hY,[],b)else cv (eT c 0 1) λd=>if(eW d 0)=true then some (hY,[],d)else cv (gE c F) λf=>ek (eL n f a) λe g=>cv (oo 3 F e.eg) λh=>some (h,e.gi,g):=by rw[eF];rfl
def R3(L:List Fm)(F:Fm)(a:Pf)(g:List Ty)(hs:List Fm):qs L 6 0 .z [] [F] (Pf.uC L [a]) g hs=lC (F.vw g) (vZ (16<hs.length+1) 3 (pbind (a.inf L g (hs++[F])) λb m=>.inl (.mk 3 .z [] [F,b],m))):=rfl
def Xb(n:Nat)(L:List Fm)(F:Fm)(a:Pf)(p:eh):qS (n+1) L (.mk 6 0 .z [] [F] [a]) p=cv (eX FU p.acb F) λb=>if(eW b 0)=true then some (⟨hY,0⟩,b)else cv (eV p.gn 0 1) λc=>if(eW c 0)=true then some (⟨hY,0⟩,c)else cv (gm p F) λf=>ek (e9 n L a f) λd e=>if(eW e 0)=true then some (⟨hY,0⟩,e)else some (⟨.mk 3 .z [] [F,d.eg],d.gi⟩,0):=by
 show kY (n+1) L (.mk 6 0 .z [] [F] [a]) p=_;rw[kY];rfl
def Qr{L:List Fm}{F:Fm}(hF:F.err=0){a:Pf}{N:Nat}(u:jN L a N):jN L (.mk 6 0 .z [] [F] [a]) (N+5):=by
 refine jN.of λn n' hn w p c h=>?_;rw[Xo,R3,Xb];have j:=h.pl.nv;obtain⟨t1,_,t2⟩:=s6 h.pl.ctx (by omega) hF;have x:=(Fm.hV hF).2;have y:=F.jF (Fm.hV hF).1;rw[h.pl.acb,t1,t2 j,cl,cl]
 by_cases b:F.vw c.acb=0
 ·rw[ea (by rw[ey];simpa using b),ea (by rw[ey];simpa using b),jt b];have i:=rV F (Fm.hV hF).1 c.acb h.pl.ctx b;rcases h.room (v:=0) (k:=1) (by omega) (by omega)with⟨d,g,_,t⟩|⟨d,g,t⟩
  ·have d:eV p.gn 0 1=some 0:=d;have g:eT c 0 1=some 0:=g;rw[d,g,cl,cl,ea (by decide),ea (by decide),nx (by omega)];obtain⟨A,B,C,D,E,G,H⟩:=h.with ⟨hF,i⟩ t;rw[C,D,cl,cl];have hi:=u (n+3) (n'+3) (by omega) (by omega) A B E;rw[G,H] at hi;rcases hi with⟨e,he,o,q,r⟩|⟨f,m,l,o,q,r,hu,s⟩
   ·have:=Om;rw[o,q,r,eb,eb,ee (by rw[ey];exact he)];simp only[];rw[GG (by omega) (by omega)];exact mj.no he rfl rfl rfl
   ·have I:=s.ab';have J:=f.jF s.ok;rw[o,q,r,eb,eb,ea (by decide)];simp only[];rw[GG (by omega) (by omega)];refine mj.yes rfl rfl rfl hu (.two (.inr rfl) i s.ty) ?_;rw[Fm.ef];simp only[eE];omega
  ·have d:eV p.gn 0 1=some 3:=d;have g:eT c 0 1=some 3:=g;rw[d,g,cl,cl,ee (by decide),ee (by decide),lD (by omega)];exact mj.no (by decide) rfl rfl rfl
 ·rw[ee (by rw[ey];exact b),ee (by rw[ey];exact b),kg b];exact mj.no b rfl rfl rfl
def WS(n:Nat)(c:en)(a b:Pf):eF (n+1) c (.mk 7 0 .z [] [] [a,b])=ek (eL n c a) λd e=>if(eW e 0)=true then some (hY,[],e)else if(eW d.eg.ab9 3)=true then some (hY,[],10)else ek (eL n c b) λf g=>if(eW g 0)=true then some (hY,[],g)else cv (eJ d.eg.ab_ 1) λh=>cv (gL d.gi f.gi) λi=>cv (eJ d.eg.ab_ 0) λj=>cv (oN j f.eg) λk=>some (h,i,k):=by rw[eF];rfl
def R1(L:List Fm)(a b:Pf)(g:List Ty)(hs:List Fm):qs L 7 0 .z [] [] (Pf.uC L [a,b]) g hs=pbind (Dg (a.inf L g hs) 3) λa m=>pbind (b.inf L g hs) λb n=>lC (y0 (a.ab_.getD 0 hY) b) (.inl (a.ab_.getD 1 hY,m|||n)):=rfl
def WE(n:Nat)(L:List Fm)(a b:Pf)(p:eh):qS (n+1) L (.mk 7 0 .z [] [] [a,b]) p=ek (fh n L a p 3) λc d=>if(eW d 0)=true then some (⟨hY,0⟩,d)else ek (e9 n L b p) λe f=>if(eW f 0)=true then some (⟨hY,0⟩,f)else cv (eJ c.eg.ab_ 0) λh=>cv (jd h e.eg) λg=>if(eW g 0)=true then some (⟨hY,0⟩,g)else cv (eJ c.eg.ab_ 1) λi=>some (⟨i,xj .u32 c.gi e.gi⟩,0):=by
 show kX (n+1) L (.mk 7 0 .z [] [] [a,b]) p=_;rw[kX];rfl
def Qp{L:List Fm}{a b:Pf}{N:Nat}(B:jN L a N)(C:jN L b N):jN L (.mk 7 0 .z [] [] [a,b]) (N+5):=by
 refine jN.of λn n' hn D p c h=>?_;rw[WS,R1,WE];rcases nG (B (n+2) (n'+3) (by omega) (by omega) p c h) 3 with⟨e,he,g,i,d⟩|⟨f,m,l,g,i,d,hu,o,r⟩
 ·rw[g,i,eb,ee (by rw[ey];exact he)];rcases d with d|⟨f,l,m,d,r,rfl,_⟩
  ·rw[d,eb,ee (by rw[ey];exact he)];exact mj.no he rfl rfl rfl
  ·rw[d,eb,ea (by decide),ee (by rw[ey];exact r)];exact mj.no he rfl rfl rfl
 ·obtain⟨x,y,rfl,v,hy⟩:=o.ty.Jx r (.inr rfl);have s:=o.sub (x:=x) (by simp) v;have t:=o.sub (x:=y) (by simp) hy;have E:=x.jF v.ok;have F:=s.ab';rw[g,i,d,eb,eb,ea (by decide),ea (by decide),ea (by simp),hR];rcases C (n+3) (n'+3) (by omega) (by omega) p c h with⟨e,he,g,i,d⟩|⟨u,K,M,g,i,d,j,k⟩
  ·rw[g,i,d,eb,eb,ee (by rw[ey];exact he),ee (by rw[ey];exact he)];exact mj.no he rfl rfl rfl
  ·have w:=k.ab';have A:=u.jF k.ok;obtain⟨q,q1,G,H,_⟩:=hu.union j (by have:=hu.len;omega) (by have:=j.len;omega);obtain⟨I,J⟩:=J7 (a:=x) (b:=u) (by omega) (by omega);rw[g,i,d,eb,eb,ea (by decide),ea (by decide),hR];simp only[Fm.eG,eU,gz,jA,mP,cl,UC,T0];rw[q1,G,I,J,cl,cl,cl]
   by_cases hm:y0 x u=0
   ·rw[jt hm,hm,ea (by decide)];exact mj.yes rfl rfl rfl H hy (by have:=t.ab';omega)
   ·rw[kg hm,ee (by rw[ey];exact hm)];exact mj.no hm rfl rfl rfl
def Us.has{l:List Int}{m:Nat}(h:Us l m):rN l=some (m.testBit 0)/\eW (qN .u32 (m:Int) 1) 0=m.testBit 0:=by
 have hm:=h.mem 0;constructor
 ·unfold rN;simp only[ez];cases l with
  |nil=>simp_all|cons a l=>
   rw[ee (by simp)];simp only[eU,jA,cl]
   congr 1
   rw[B5,gw,<-hm];constructor
   ·rintro rfl;simp
   ·intro hh;rcases ma.1 hh with hh|hh
    ·exact hh.symm
    ·cases h.XB with
     |cons s1 _=>
      have:=s1 0 (by simpa using hh);have:=h.pos a (by simp);omega
 ·rw[show(1:Int)=((1:Nat):Int)from rfl,L3 h.lt (by omega)];rw[B5,ey,Nat.testBit_zero,Nat.and_one_is_mod];simp only[nq];omega
def V9(n:Nat)(c:en)(s:Ty)(a:Pf):eF (n+2) c (.mk 8 0 s [] [] [a])=iL (cv (eT c 1 0) λk=>if(eW k 0)=true then some (hY,[],k)else cv (fK c [s]) λh=>ek (eL n h a) λb d=>if(eW d 0)=true then some (hY,[],d)else cv (kh 4 s b.eg) λi=>cv (gP b.gi 1) λj=>some (i,j,0)) λe f g=>some (e,f,g):=by
 rw[eF];rw[kJ];rfl
def Uh(n:Nat)(c:en)(s:Ty)(a:Pf):eF (n+2) c (.mk 12 0 s [] [] [a])=iL (cv (eT c 1 0) λl=>if(eW l 0)=true then some (hY,[],l)else cv (fK c [s]) λh=>ek (eL n h a) λb d=>if(eW d 0)=true then some (hY,[],d)else cv (rN b.gi) λi=>if i=true then some (hY,[],12)else cv (kh 6 s b.eg) λj=>cv (gP b.gi 1) λk=>some (j,k,0)) λe f g=>some (e,f,g):=by
 rw[eF];rw[kJ];rfl
def OC(L:List Fm)(s:Ty)(a:Pf)(g:List Ty)(hs:List Fm):qs L 8 0 s [] [] (Pf.uC L [a]) g hs=vZ (16<g.length+1) 3 (pbind (a.inf L (g++[s]) (hs.map (Fm.up 0 1))) λb m=>.inl (.mk 4 s [] [b],m/2)):=rfl
def OY(L:List Fm)(s:Ty)(a:Pf)(g:List Ty)(hs:List Fm):qs L 12 0 s [] [] (Pf.uC L [a]) g hs=vZ (16<g.length+1) 3 (pbind (a.inf L (g++[s]) (hs.map (Fm.up 0 1))) λb m=>vZ (m.testBit 0=true) 12 (.inl (.mk 6 s [] [b],m/2))):=rfl
def Xz(n:Nat)(L:List Fm)(s:Ty)(a:Pf)(p:eh):qS (n+1) L (.mk 8 0 s [] [] [a]) p=cv (eV p.gn 1 0) λf=>if(eW f 0)=true then some (⟨hY,0⟩,f)else cv (f_ p [s]) λd=>ek (e9 n L a d) λb c=>if(eW c 0)=true then some (⟨hY,0⟩,c)else cv (fJ b.gi 1) λe=>some (⟨.mk 4 s [] [b.eg],e⟩,0):=by
 show il (n+1) L (.mk 8 0 s [] [] [a]) p=_;rw[il];rfl
def TJ(n:Nat)(L:List Fm)(s:Ty)(a:Pf)(p:eh):qS (n+1) L (.mk 12 0 s [] [] [a]) p=cv (eV p.gn 1 0) λf=>if(eW f 0)=true then some (⟨hY,0⟩,f)else cv (f_ p [s]) λd=>ek (e9 n L a d) λb c=>if(eW c 0)=true then some (⟨hY,0⟩,c)else if(eW (qN .u32 b.gi 1) 0)=true then some (⟨hY,0⟩,12)else cv (fJ b.gi 1) λe=>some (⟨.mk 6 s [] [b.eg],e⟩,0):=by
 show il (n+1) L (.mk 12 0 s [] [] [a]) p=_;rw[il];rfl
def QJ{L:List Fm}{s:Ty}(hs:s.err=0){a:Pf}{N:Nat}(t:jN L a N):jN L (.mk 8 0 s [] [] [a]) (N+5):=by
 refine jN.of λn n' hn u p c h=>?_;rw[show n'+4=n'+2+2 from rfl,V9,OC,Xz];rcases h.room (v:=1) (k:=0) (by omega) (by omega)with⟨b,d,r,_⟩|⟨b,d,r⟩
 ·have b:eV p.gn 1 0=some 0:=b;have d:eT c 1 0=some 0:=d;rw[b,d,cl,cl,ea nz,ea nz,nx (by omega)];obtain⟨w,x,y,z,A,B,C⟩:=h.below hs r;rw[y,z,cl,cl];have hi:=t (n+3) (n'+2) (by omega) (by omega) w x A;rw[B,C] at hi;rcases hi with⟨e,he,g,i,j⟩|⟨f,m,l,g,i,j,hu,o⟩
  ·rw[g,i,j,eb,eb,ee (by rw[ey];exact he),ee (by rw[ey];exact he)];exact mj.no he rfl rfl rfl
  ·have D:=o.ab';have E:=f.jF o.ok;have F:=fC hs;obtain⟨G,H,I⟩:=hu.out (by have:=hu.len;omega) (k:=1) (by omega);rw[g,i,j,eb,eb,ea nz,ea nz,hR];simp only[];rw[D8 (by omega) (by omega),cl,show(1:Int)=((1:Nat):Int)from rfl,G,H];refine mj.yes rfl rfl rfl I (.q (.inl rfl) hs o.ty) ?_;rw[Fm.ef];simp only[eE];omega
 ·have b:eV p.gn 1 0=some 3:=b;have d:eT c 1 0=some 3:=d;have J:=h.pl.nh;rw[b,d,cl,cl,ee (by decide),ee (by decide),lD (by omega)];exact mj.no (by decide) rfl rfl rfl
def Nt{L:List Fm}{s:Ty}(hs:s.err=0){a:Pf}{N:Nat}(u:jN L a N):jN L (.mk 12 0 s [] [] [a]) (N+5):=by
 refine jN.of λn n' hn w p c h=>?_;rw[show n'+4=n'+2+2 from rfl,Uh,OY,TJ];rcases h.room (v:=1) (k:=0) (by omega) (by omega)with⟨b,d,t,_⟩|⟨b,d,t⟩
 ·have b:eV p.gn 1 0=some 0:=b;have d:eT c 1 0=some 0:=d;rw[b,d,cl,cl,ea nz,ea nz,nx (by omega)];obtain⟨x,y,z,A,B,C,D⟩:=h.below hs t;rw[z,A,cl,cl];have hi:=u (n+3) (n'+2) (by omega) (by omega) x y B;rw[C,D] at hi;rcases hi with⟨e,he,i,j,o⟩|⟨f,m,l,i,j,o,hu,r⟩
  ·rw[i,j,o,eb,eb,ee (by rw[ey];exact he),ee (by rw[ey];exact he)];exact mj.no he rfl rfl rfl
  ·have E:=r.ab';have F:=f.jF r.ok;have G:=fC hs;obtain⟨H,I,J⟩:=hu.out (by have:=hu.len;omega) (k:=1) (by omega);obtain⟨K,M⟩:=hu.has;rw[i,j,o,eb,eb,ea nz,ea nz,hR];simp only[];rw[K,M,cl]
   by_cases g:m.testBit 0=true
   ·rw[lD g,ee g,ee g];exact mj.no (by decide) rfl rfl rfl
   ·rw[nx g,ea g,ea g,D8 (by omega) (by omega),cl,show(1:Int)=((1:Nat):Int)from rfl,H,I];refine mj.yes rfl rfl rfl J (.q (.inr (.inr (.inl rfl))) hs r.ty) ?_;rw[Fm.ef];simp only[eE];omega
 ·have b:eV p.gn 1 0=some 3:=b;have d:eT c 1 0=some 3:=d;have O:=h.pl.nh;rw[b,d,cl,cl,ee (by decide),ee (by decide),lD (by omega)];exact mj.no (by decide) rfl rfl rfl
theorem Np(a b:Ty):a.lS b=b.lS a:=by grind[Ty.k0]
def qx{a b:Ty}(c:a.err=0)(d:b.err=0):iv (ti a) b=some (a.lS b)/\fQ FU b a=some (a.lS b):=by
 have e:=fC c;have f:=fC d
 grind[iv,lI,cl,su,jh,Np]
def ZY(n:Nat)(c:en)(t:Tm)(a:Pf):eF (n+2) c (.mk 9 0 .z [t] [] [a])=iL (ek (kS c.acb t) λp o=>if(eW o 0)=true then some (hY,[],o)else ek (eL n c a) λb d=>if(eW d 0)=true then some (hY,[],d)else cv (kM t) λh=>cv (gL b.gi h) λi=>if(eW b.eg.ab9 4)=true then some (hY,[],10)else cv (fQ FU b.eg.dv p) λj=>if j=true then cv (eJ b.eg.ab_ 0) λk=>ek (jZ k t) λl m=>some (l,i,m)else some (hY,[],7)) λe f g=>some (e,f,g):=by
 rw[eF];rw[ly];rfl
def VZ(n:Nat)(c:en)(t:Tm)(a:Pf):eF (n+2) c (.mk 13 0 .z [t] [] [a])=iL (ek (kS c.acb t) λo m=>if(eW m 0)=true then some (hY,[],m)else ek (eL n c a) λb d=>if(eW d 0)=true then some (hY,[],d)else cv (kM t) λh=>cv (gL b.gi h) λp=>if(eW b.eg.ab9 6)=true then some (hY,[],10)else cv (fQ FU b.eg.dv o) λi=>if i=true then cv (eJ b.eg.ab_ 0) λj=>ek (jZ j t) λk l=>some (k,b.gi,l)else some (hY,[],7)) λe f g=>some (e,f,g):=by
 rw[eF];rw[ly];rfl
def Vc(L:List Fm)(t:Tm)(a:Pf)(g:List Ty)(hs:List Fm):qs L 9 0 .z [t] [] (Pf.uC L [a]) g hs=lC (t.ty g).2 (pbind (Dg (a.inf L g hs) 4) λa m=>vZ ((t.ty g).1.lS a.dv=false) 7 (lC (oe (a.ab_.getD 0 hY) t).2 (.inl ((oe (a.ab_.getD 0 hY) t).1,m|||q4 t)))):=rfl
def Q5(L:List Fm)(t:Tm)(a:Pf)(g:List Ty)(hs:List Fm):qs L 13 0 .z [t] [] (Pf.uC L [a]) g hs=lC (t.ty g).2 (pbind (Dg (a.inf L g hs) 6) λa m=>vZ ((t.ty g).1.lS a.dv=false) 7 (lC (oe (a.ab_.getD 0 hY) t).2 (.inl ((oe (a.ab_.getD 0 hY) t).1,m)))):=rfl
def ZU(n:Nat)(L:List Fm)(t:Tm)(a:Pf)(p:eh):qS (n+1) L (.mk 9 0 .z [t] [] [a]) p=ek (eY FU p.acb t) λj i=>if(eW i 0)=true then some (⟨hY,0⟩,i)else cv (kA t) λd=>ek (fh n L a p 4) λb c=>if(eW c 0)=true then some (⟨hY,0⟩,c)else cv (iv j b.eg.dv) λe=>if e=true then cv (eJ b.eg.ab_ 0) λf=>ek (jl f t) λg h=>some (⟨g,xj .u32 b.gi d⟩,h)else some (⟨hY,0⟩,7):=by
 show ik (n+1) L (.mk 9 0 .z [t] [] [a]) p=_;rw[ik];rfl
def Xi(n:Nat)(L:List Fm)(t:Tm)(a:Pf)(p:eh):qS (n+1) L (.mk 13 0 .z [t] [] [a]) p=ek (eY FU p.acb t) λi h=>if(eW h 0)=true then some (⟨hY,0⟩,h)else cv (kA t) λj=>ek (fh n L a p 6) λb c=>if(eW c 0)=true then some (⟨hY,0⟩,c)else cv (iv i b.eg.dv) λd=>if d=true then cv (eJ b.eg.ab_ 0) λe=>ek (jl e t) λf g=>some (⟨f,xj .u32 b.gi 0⟩,g)else some (⟨hY,0⟩,7):=by
 show ik (n+1) L (.mk 13 0 .z [t] [] [a]) p=_;rw[ik];rfl
def LO{m:Nat}(h:m<4294967296):xj .u32 (m:Int) 0=(m:Int):=by
 rw[show(0:Int)=((0:Nat):Int)from rfl,KQ h (by omega),Nat.or_zero]
def vh{t:Tm}(a:t.err=0){g:List Ty}(b:iR g):(∃e,e≠0/\(t.ty g).2=e/\∃z,t.ty g=(z,e))\/∃s,t.ty g=(s,0)/\e_ g t s/\s.err=0:=by
 obtain⟨s,e,c⟩:∃s e,t.ty g=(s,e):=⟨_,_,rfl⟩
 by_cases he:e=0
 ·subst he;obtain⟨d,f⟩:=q9 _ t (jo _) (Tm.hV a).1 g b s c
  grind
 ·grind
def Q7{L:List Fm}{t:Tm}(d:t.err=0){a:Pf}{N:Nat}(E:jN L a N):jN L (.mk 9 0 .z [t] [] [a]) (N+5):=by
 refine jN.of λn n' hn F p c h=>?_;have g:=h.pl.nv;rw[show n'+4=n'+2+2 from rfl,ZY,Vc,ZU,h.pl.acb,(nJ h.pl.ctx g d).1,(nJ h.pl.ctx g d).2];rcases vh d h.pl.ctx with⟨e,he,q1,z,G⟩|⟨s,q1,j,hs⟩
 ·rw[G,me he,eb,eb,ee (by rw[ey];exact he),ee (by rw[ey];exact he),kg he];exact mj.no he rfl rfl rfl
 ·obtain⟨K,f1,f2,f3⟩:=xT g j d;rw[q1,qk,eb,eb,ea nz,ea nz,jt rfl,f1,cl];rcases nG (E (n+2) (n'+2) (by omega) (by omega) p c h) 4 with⟨e,he,o,r,i⟩|⟨f,m,l,o,r,i,hu,B,u⟩
  ·rw[o,r,eb,ee (by rw[ey];exact he)];rcases i with i|⟨f,l,m,i,u,rfl,hu⟩
   ·rw[i,eb,ee (by rw[ey];exact he)];exact mj.no he rfl rfl rfl
   ·obtain⟨q,v,_⟩:=hu.union f3 (by have:=hu.len;omega) (by have:=f3.len;omega);rw[i,eb,ea nz,f2,cl,v,cl,ee (by rw[ey];exact u)];exact mj.no he rfl rfl rfl
  ·obtain⟨C,x,rfl,k,D⟩:=B.ty.wB u (.inl rfl);have w:=B.sub (x:=x) (by simp) D;obtain⟨q,v,H,I,_⟩:=hu.union f3 (by have:=hu.len;omega) (by have:=f3.len;omega);rw[o,r,i,eb,eb,ea nz,ea nz,f2,cl,hR];simp only[Fm.eN,Fm.fw,Fm.eG,eU,jA,cl,UC];rw[v,H,cl,ea (show¬eW 4 4=true by decide),(qx hs k).1,(qx hs k).2,cl,cl]
   by_cases b:s.lS C=true
   ·have:=(Ty.k0 s C).1 b;subst this;have y:sU c.acb x t:=⟨w.err,d,s,D,j⟩;rw[nx (by rw[b];decide),ee b,ee b,(y.both (by omega)).1,(y.both (by omega)).2];rcases p7 x t with A|⟨J,A⟩
    ·rw[A,eb,eb,kg (by decide)];exact mj.no (by decide) rfl rfl rfl
    ·rw[A,eb,eb,jt rfl];exact mj.yes (f:=Fm.jX 0 x t) rfl rfl rfl I y.put (by omega)
   ·rw[lD (by simpa using b),ea b,ea b];exact mj.no (by decide) rfl rfl rfl
def PD{L:List Fm}{t:Tm}(d:t.err=0){a:Pf}{N:Nat}(E:jN L a N):jN L (.mk 13 0 .z [t] [] [a]) (N+5):=by
 refine jN.of λn n' hn F p c h=>?_;have g:=h.pl.nv;rw[show n'+4=n'+2+2 from rfl,VZ,Q5,Xi,h.pl.acb,(nJ h.pl.ctx g d).1,(nJ h.pl.ctx g d).2];rcases vh d h.pl.ctx with⟨e,he,q1,z,G⟩|⟨s,q1,j,hs⟩
 ·rw[G,me he,eb,eb,ee (by rw[ey];exact he),ee (by rw[ey];exact he),kg he];exact mj.no he rfl rfl rfl
 ·obtain⟨I,f1,f2,f3⟩:=xT g j d;rw[q1,qk,eb,eb,ea nz,ea nz,jt rfl,f1,cl];rcases nG (E (n+2) (n'+2) (by omega) (by omega) p c h) 6 with⟨e,he,o,r,i⟩|⟨f,m,l,o,r,i,hu,B,u⟩
  ·rw[o,r,eb,ee (by rw[ey];exact he)];rcases i with i|⟨f,l,m,i,u,rfl,hu⟩
   ·rw[i,eb,ee (by rw[ey];exact he)];exact mj.no he rfl rfl rfl
   ·obtain⟨q,v,_⟩:=hu.union f3 (by have:=hu.len;omega) (by have:=f3.len;omega);rw[i,eb,ea nz,f2,cl,v,cl,ee (by rw[ey];exact u)];exact mj.no he rfl rfl rfl
  ·obtain⟨C,x,rfl,k,D⟩:=B.ty.wB u (.inr (.inr (.inl rfl)));have w:=B.sub (x:=x) (by simp) D;obtain⟨q,v,_⟩:=hu.union f3 (by have:=hu.len;omega) (by have:=f3.len;omega);rw[o,r,i,eb,eb,ea nz,ea nz,f2,cl,hR];simp only[Fm.eN,Fm.fw,Fm.eG,eU,jA,cl,UC];rw[v,LO hu.lt,cl,ea (show¬eW 6 6=true by decide),(qx hs k).1,(qx hs k).2,cl,cl]
   by_cases b:s.lS C=true
   ·have:=(Ty.k0 s C).1 b;subst this;have y:sU c.acb x t:=⟨w.err,d,s,D,j⟩;rw[nx (by rw[b];decide),ee b,ee b,(y.both (by omega)).1,(y.both (by omega)).2];rcases p7 x t with A|⟨H,A⟩
    ·rw[A,eb,eb,kg (by decide)];exact mj.no (by decide) rfl rfl rfl
    ·rw[A,eb,eb,jt rfl];exact mj.yes (f:=Fm.jX 0 x t) rfl rfl rfl hu y.put (by omega)
   ·rw[lD (by simpa using b),ea b,ea b];exact mj.no (by decide) rfl rfl rfl
def WZ(n:Nat)(c:en)(t:Tm)(F:Fm)(a:Pf):eF (n+2) c (.mk 10 0 .z [t] [F] [a])=iL (cv (jR c.acb F) λb=>if(eW b 0)=true then some (hY,[],b)else if(eW F.ab9 5)=true then some (hY,[],10)else ek (kS c.acb t) λh d=>if(eW d 0)=true then some (hY,[],d)else cv (fQ FU F.dv h) λi=>if i=true then cv (eJ F.ab_ 0) λj=>ek (fA n c a j t) λk l=>cv (kM t) λm=>cv (gL k m) λo=>some (F,o,l)else some (hY,[],7)) λe f g=>some (e,f,g):=by
 rw[eF];rw[lv];rfl
def Wu(n:Nat)(c:en)(t:Tm)(F:Fm)(a:Pf):eF (n+2) c (.mk 14 0 .z [t] [F] [a])=iL (cv (jR c.acb F) λb=>if(eW b 0)=true then some (hY,[],b)else if(eW F.ab9 7)=true then some (hY,[],10)else ek (kS c.acb t) λh d=>if(eW d 0)=true then some (hY,[],d)else cv (fQ FU F.dv h) λi=>if i=true then cv (eJ F.ab_ 0) λj=>ek (fA n c a j t) λk l=>some (F,k,l)else some (hY,[],7)) λe f g=>some (e,f,g):=by
 rw[eF];rw[lv];rfl
def RD(L:List Fm)(t:Tm)(F:Fm)(a:Pf)(g:List Ty)(hs:List Fm):qs L 10 0 .z [t] [F] (Pf.uC L [a]) g hs=lC (F.vw g) (vZ (F.ab9≠5) 10 (lC (t.ty g).2 (vZ ((t.ty g).1.lS F.dv=false) 7 (pbind (IZ (a.inf L g hs) (F.ab_.getD 0 hY) t) λ_ m=>.inl (F,m|||q4 t))))):=rfl
def Rp(L:List Fm)(t:Tm)(F:Fm)(a:Pf)(g:List Ty)(hs:List Fm):qs L 14 0 .z [t] [F] (Pf.uC L [a]) g hs=lC (F.vw g) (vZ (F.ab9≠7) 10 (lC (t.ty g).2 (vZ ((t.ty g).1.lS F.dv=false) 7 (pbind (IZ (a.inf L g hs) (F.ab_.getD 0 hY) t) λ_ m=>.inl (F,m))))):=rfl
def Xl(n:Nat)(L:List Fm)(t:Tm)(F:Fm)(a:Pf)(p:eh):qS (n+1) L (.mk 10 0 .z [t] [F] [a]) p=cv (eX FU p.acb F) λc=>if(eW c 0)=true then some (⟨hY,0⟩,c)else if(eW F.ab9 5)=true then some (⟨hY,0⟩,10)else ek (eY FU p.acb t) λh d=>if(eW d 0)=true then some (⟨hY,0⟩,d)else cv (iv h F.dv) λi=>if i=true then cv (eJ F.ab_ 0) λe=>ek (fi n L a p e t) λf b=>if(eW b 0)=true then some (⟨hY,0⟩,b)else cv (kA t) λg=>some (⟨F,xj .u32 f.gi g⟩,0)else some (⟨hY,0⟩,7):=by
 show iC (n+1) L (.mk 10 0 .z [t] [F] [a]) p=_;rw[iC];rfl
def Wa(n:Nat)(L:List Fm)(t:Tm)(F:Fm)(a:Pf)(p:eh):qS (n+1) L (.mk 14 0 .z [t] [F] [a]) p=cv (eX FU p.acb F) λc=>if(eW c 0)=true then some (⟨hY,0⟩,c)else if(eW F.ab9 7)=true then some (⟨hY,0⟩,10)else ek (eY FU p.acb t) λg d=>if(eW d 0)=true then some (⟨hY,0⟩,d)else cv (iv g F.dv) λh=>if h=true then cv (eJ F.ab_ 0) λe=>ek (fi n L a p e t) λf b=>if(eW b 0)=true then some (⟨hY,0⟩,b)else some (⟨F,xj .u32 f.gi 0⟩,0)else some (⟨hY,0⟩,7):=by
 show iC (n+1) L (.mk 14 0 .z [t] [F] [a]) p=_;rw[iC];rfl
def Py{L:List Fm}{t:Tm}(d:t.err=0){F:Fm}(hF:F.err=0){a:Pf}{N:Nat}(G:jN L a N):jN L (.mk 10 0 .z [t] [F] [a]) (N+5):=by
 refine jN.of λn n' hn H p c h=>?_;have g:=h.pl.nv;obtain⟨t1,_,t2⟩:=s6 h.pl.ctx (by omega) hF;have I:=(Fm.hV hF).2;rw[show n'+4=n'+2+2 from rfl,WZ,RD,Xl,h.pl.acb,(nJ h.pl.ctx g d).1,(nJ h.pl.ctx g d).2,t1,t2 g,cl,cl]
 by_cases j:F.vw c.acb=0
 ·have o:¬eW (F.vw c.acb) 0=true:=by rw[ey];simpa using j
  rw[ea o,ea o,jt j];have i:=rV F (Fm.hV hF).1 c.acb h.pl.ctx j
  by_cases k:F.ab9=5
  ·have o:¬eW F.ab9 5=true:=by rw[ey];simpa using k
   rw[ea o,ea o,nx (by simpa using k)];rcases vh d h.pl.ctx with⟨e,he,q1,z,J⟩|⟨s,q1,r,hs⟩
   ·rw[J,me he,eb,eb,ee (by rw[ey];exact he),ee (by rw[ey];exact he),kg he];exact mj.no he rfl rfl rfl
   ·obtain⟨v,x,rfl,u,E⟩:=i.wB k (.inr (.inl rfl));have w:Hg c.acb (.mk 5 v [] [x]):=⟨hF,i⟩;have y:=w.sub (x:=x) (by simp) E;obtain⟨P,f1,f2,f3⟩:=xT g r d;rw[q1,qk,eb,eb,ea nz,ea nz,jt rfl];simp only[Fm.eN,Fm.fw,Fm.eG,eU,jA,cl,UC];rw[(qx hs u).1,(qx hs u).2,cl,cl]
    by_cases b:s.lS v=true
    ·have:=(Ty.k0 s v).1 b;subst this;have K:sU c.acb x t:=⟨y.err,d,s,E,r⟩;rw[nx (by rw[b];decide),ee b,ee b];rcases sY g (G (n+2) (n'+1) (by omega) (by omega) p c h) K with⟨e,z,l,m,he,A,B,C,hu⟩|⟨f,m,l,A,B,C,hu⟩
     ·obtain⟨q,D,_⟩:=hu.union f3 (by have:=hu.len;omega) (by have:=f3.len;omega);rw[A,B,C,eb,eb,ee (by rw[ey];exact he),f2,cl,D];exact mj.no he rfl rfl rfl
     ·obtain⟨q,D,M,O,_⟩:=hu.union f3 (by have:=hu.len;omega) (by have:=f3.len;omega);rw[A,B,C,eb,eb,ea nz,f1,f2,cl,cl,hR];simp only[];rw[D,M];exact mj.yes rfl rfl rfl O i (by omega)
    ·rw[lD (by simpa using b),ea b,ea b];exact mj.no (by decide) rfl rfl rfl
  ·rw[ee (by rw[ey];exact k),ee (by rw[ey];exact k),lD k];exact mj.no (by decide) rfl rfl rfl
 ·rw[ee (by rw[ey];exact j),ee (by rw[ey];exact j),kg j];exact mj.no j rfl rfl rfl
def QG{L:List Fm}{t:Tm}(g:t.err=0){F:Fm}(hF:F.err=0){a:Pf}{N:Nat}(D:jN L a N):jN L (.mk 14 0 .z [t] [F] [a]) (N+5):=by
 refine jN.of λn n' hn E p c h=>?_;have i:=h.pl.nv;obtain⟨t1,_,t2⟩:=s6 h.pl.ctx (by omega) hF;have G:=(Fm.hV hF).2;rw[show n'+4=n'+2+2 from rfl,Wu,Rp,Wa,h.pl.acb,(nJ h.pl.ctx i g).1,(nJ h.pl.ctx i g).2,t1,t2 i,cl,cl]
 by_cases j:F.vw c.acb=0
 ·have o:¬eW (F.vw c.acb) 0=true:=by rw[ey];simpa using j
  rw[ea o,ea o,jt j];have d:=rV F (Fm.hV hF).1 c.acb h.pl.ctx j
  by_cases k:F.ab9=7
  ·have o:¬eW F.ab9 7=true:=by rw[ey];simpa using k
   rw[ea o,ea o,nx (by simpa using k)];rcases vh g h.pl.ctx with⟨e,he,q1,z,H⟩|⟨s,q1,r,hs⟩
   ·rw[H,me he,eb,eb,ee (by rw[ey];exact he),ee (by rw[ey];exact he),kg he];exact mj.no he rfl rfl rfl
   ·obtain⟨u,x,rfl,q,C⟩:=d.wB k (.inr (.inr (.inr rfl)));have v:Hg c.acb (.mk 7 u [] [x]):=⟨hF,d⟩;have w:=v.sub (x:=x) (by simp) C;rw[q1,qk,eb,eb,ea nz,ea nz,jt rfl];simp only[Fm.eN,Fm.fw,Fm.eG,eU,jA,cl,UC];rw[(qx hs q).1,(qx hs q).2,cl,cl]
    by_cases b:s.lS u=true
    ·have:=(Ty.k0 s u).1 b;subst this;have I:sU c.acb x t:=⟨w.err,g,s,C,r⟩;rw[nx (by rw[b];decide),ee b,ee b];rcases sY i (D (n+2) (n'+1) (by omega) (by omega) p c h) I with⟨e,z,l,m,he,y,A,B,hu⟩|⟨f,m,l,y,A,B,hu⟩
     ·rw[y,A,B,eb,eb,ee (by rw[ey];exact he)];exact mj.no he rfl rfl rfl
     ·rw[y,A,B,eb,eb,ea nz,hR];simp only[];rw[LO hu.lt];exact mj.yes rfl rfl rfl hu d (by omega)
    ·rw[lD (by simpa using b),ea b,ea b];exact mj.no (by decide) rfl rfl rfl
  ·rw[ee (by rw[ey];exact k),ee (by rw[ey];exact k),lD k];exact mj.no (by decide) rfl rfl rfl
 ·rw[ee (by rw[ey];exact j),ee (by rw[ey];exact j),kg j];exact mj.no j rfl rfl rfl
def O6(k:Fm->Option (Fm×List Int×Int))(f:Fm):Option (Fm×List Int×Int):=
 cv (pF FU f 0) λc=>if c=true then ek (mC FU f) λa b=>if(eW b 0)=true then some (hY,[],b)else cv (pF FU a 0) λd=>if d=true then some (hY,[],6)else k (.mk a.ab9 (.mk a.dv.ab9 a.dv.ab_) a.ej a.ab_)else k (.mk f.ab9 (.mk f.dv.ab9 f.dv.ab_) f.ej f.ab_)
def Se(n:Nat)(c:en)(a b:Pf):eF (n+2) c (.mk 11 0 .z [] [] [a,b])=iL (ek (eL n c a) λd e=>if(eW e 0)=true then some (hY,[],e)else if(eW d.eg.ab9 5)=true then some (hY,[],10)else cv (eT c 1 1) λg=>if(eW g 0)=true then some (hY,[],g)else cv (fK c [d.eg.dv]) λq=>cv (eJ d.eg.ab_ 0) λr=>cv (gE q r) λs=>ek (eL n s b) λh i=>if(eW i 0)=true then some (hY,[],i)else O6 (λf=>cv (hB FU f 1 (-1)) λj=>cv (gP h.gi 1) λk=>cv (gL d.gi k) λl=>some (j,l,0)) h.eg) λm o p=>some (m,o,p):=by
 rw[eF];rw[km];rfl
def RW(n:Nat)(c:en)(a b:Pf):eF (n+2) c (.mk 15 0 .z [] [] [a,b])=iL (ek (eL n c a) λd g=>if(eW g 0)=true then some (hY,[],g)else if(eW d.eg.ab9 7)=true then some (hY,[],10)else cv (eT c 1 1) λh=>if(eW h 0)=true then some (hY,[],h)else cv (fK c [d.eg.dv]) λr=>cv (eJ d.eg.ab_ 0) λs=>cv (gE r s) λt=>ek (eL n t b) λe i=>if(eW i 0)=true then some (hY,[],i)else O6 (λf=>cv (rN e.gi) λj=>if j=true then some (hY,[],12)else cv (hB FU f 1 (-1)) λk=>cv (gP e.gi 1) λl=>cv (gL d.gi l) λm=>some (k,m,0)) e.eg) λo p q=>some (o,p,q):=by
 rw[eF];rw[km];rfl
def ME(L:List Fm)(a b:Pf)(g:List Ty)(hs:List Fm):qs L 11 0 .z [] [] (Pf.uC L [a,b]) g hs=pbind (Dg (a.inf L g hs) 5) λa m=>vZ (16<g.length+1\/16<hs.length+1) 3 (pbind (b.inf L (g++[a.dv]) (hs.map (Fm.up 0 1)++[a.ab_.getD 0 hY])) λb n=>lC (Cc b).2 (.inl ((Cc b).1,m|||n/2))):=rfl
def Mz(L:List Fm)(a b:Pf)(g:List Ty)(hs:List Fm):qs L 15 0 .z [] [] (Pf.uC L [a,b]) g hs=pbind (Dg (a.inf L g hs) 7) λa m=>vZ (16<g.length+1\/16<hs.length+1) 3 (pbind (b.inf L (g++[a.dv]) (hs.map (Fm.up 0 1)++[a.ab_.getD 0 hY])) λb n=>lC (Cc b).2 (vZ (n.testBit 0=true) 12 (.inl ((Cc b).1,m|||n/2)))):=rfl
def RH(n:Nat)(L:List Fm)(a b:Pf)(p:eh):qS (n+1) L (.mk 11 0 .z [] [] [a,b]) p=ek (fh n L a p 5) λc d=>if(eW d 0)=true then some (⟨hY,0⟩,d)else cv (eV p.gn 1 1) λe=>if(eW e 0)=true then some (⟨hY,0⟩,e)else cv (f_ p [c.eg.dv]) λi=>cv (eJ c.eg.ab_ 0) λj=>cv (gm i j) λk=>ek (e9 n L b k) λf g=>if(eW g 0)=true then some (⟨hY,0⟩,g)else ek (mY f.eg) λl h=>if(eW h 0)=true then some (⟨hY,0⟩,h)else cv (fJ f.gi 1) λm=>some (⟨l,xj .u32 c.gi m⟩,0):=by
 show iD (n+1) L (.mk 11 0 .z [] [] [a,b]) p=_;rw[iD];rfl
def S8(n:Nat)(L:List Fm)(a b:Pf)(p:eh):qS (n+1) L (.mk 15 0 .z [] [] [a,b]) p=ek (fh n L a p 7) λc e=>if(eW e 0)=true then some (⟨hY,0⟩,e)else cv (eV p.gn 1 1) λf=>if(eW f 0)=true then some (⟨hY,0⟩,f)else cv (f_ p [c.eg.dv]) λi=>cv (eJ c.eg.ab_ 0) λj=>cv (gm i j) λk=>ek (e9 n L b k) λd g=>if(eW g 0)=true then some (⟨hY,0⟩,g)else ek (mY d.eg) λl h=>if(eW h 0)=true then some (⟨hY,0⟩,h)else if(eW (qN .u32 d.gi 1) 0)=true then some (⟨hY,0⟩,12)else cv (fJ d.gi 1) λm=>some (⟨l,xj .u32 c.gi m⟩,0):=by
 show iD (n+1) L (.mk 15 0 .z [] [] [a,b]) p=_;rw[iD];rfl
def Lp{g:List Ty}{s:Ty}{f:Fm}(h:Hg (g++[s]) f)(hg:g.length<=1000)(k:Fm->Option (Fm×List Int×Int))(k':Fm->Option (Fm×List Int×Int))(j:∀x,x.acg 0=0->x.ab'<=4096*4096->x.ace 1000000000000=true->k x=k' (x.up 1 (-1))):O6 k f=if(Cc f).2=0 then k' (Cc f).1 else some (hY,[],(Cc f).2):=by
 have hn:=h.ab';have m:f.ace 1000000000000=true:=h.ty.ace _ (by simp;omega);unfold O6;rw[CX FU f 0 (by rw[fy];omega) (by omega) (by omega) (by omega),cl,Ty.lM,Fm.lM]
 by_cases i:f.acg 0=0
 ·have hw:Cc f=(f.up 1 (-1),0):=by unfold Cc;rw[ee i]
  grind
 ·rw[ee (show decide (0<f.acg 0)=true by simp;omega),E9 FU f (by rw[fy];omega) (by omega) (QE.of f hn h.ok (h.ty.ace _ (by simp;omega)))];obtain⟨a,b,d⟩:∃a b,f.xS 0=(a,b):=⟨_,_,rfl⟩
  have hw:Cc f=if b≠0 then(hY,b)else if a.acg 0≠0 then(hY,6)else(a.up 1 (-1),0):=by unfold Cc;rw[ea i,d]
  rw[d];simp only[]
  by_cases he:b=0
  ·subst he;have c:=Nq h.ty 0 (by simp;omega) hn (by rw[d]);rw[d] at c;obtain⟨_,a2,a3⟩:=c;have a2:k4 (g++[s]) a:=a2;have a3:a.ab'<=3000*f.ab':=a3;rw[ea (by decide)] at hw;rw[ee rfl,eb,ea nz,CX FU a 0 (by rw[fy];omega) (by omega) (by omega) (by omega),cl,Ty.lM,Fm.lM]
   by_cases e:a.acg 0=0
   ·rw[ea (by simpa using e)] at hw;rw[hw,ea (show¬(decide (0<a.acg 0)=true) by simp;omega)];exact(j a e (by omega) (a2.ace _ (by simp;omega))).trans (ee rfl).symm
   ·rw[ee e] at hw;rw[hw,ee (show decide (0<a.acg 0)=true by simp;omega)];rfl
  ·rw[ee he] at hw
   have l:eW b 0=true:=by rw[ey];exact he
   rw[hw,ea he,eb,ee l,ea he]
def M3{L:List Fm}{a b:Pf}{N:Nat}(M:jN L a N)(O:jN L b N):jN L (.mk 11 0 .z [] [] [a,b]) (N+5):=by
 refine jN.of λn n' hn P p c h=>?_;have Q:=h.pl.nv;rw[show n'+4=n'+2+2 from rfl,Se,ME,RH];rcases nG (M (n+2) (n'+2) (by omega) (by omega) p c h) 5 with⟨e,he,g,i,d⟩|⟨f,m,l,g,i,d,hu,E,A⟩
 ·rw[g,i,eb,ee (by rw[ey];exact he)];rcases d with d|⟨f,l,m,d,A,rfl,_⟩
  ·rw[d,eb,ee (by rw[ey];exact he)];exact mj.no he rfl rfl rfl
  ·rw[d,eb,ea nz,ee (by rw[ey];exact A)];exact mj.no he rfl rfl rfl
 ·obtain⟨s,x,rfl,hs,R⟩:=E.ty.wB A (.inr (.inl rfl));have B:=E.sub (x:=x) (by simp) R;rw[g,i,d,eb,eb,ea nz,ea nz,ea (by simp),hR];simp only[Fm.fw,Fm.eG,eU,jA,cl,UC];rcases h.room (v:=1) (k:=1) (by omega) (by omega)with⟨j,o,F,S⟩|⟨j,o,F⟩
  ·have j:eV p.gn 1 1=some 0:=j;have o:eT c 1 1=some 0:=o;rw[j,o,cl,cl,ea nz,ea nz,nx (by omega)];obtain⟨p1,c1,T,U,V,G,H⟩:=h.below hs F;obtain⟨W,X,Y,Z,b3,b4,b5⟩:=V.with (f:=x) (by rw[G];exact B) (by rw[H];simpa using S);rw[T,U,cl,cl,Y,Z,cl,cl];have hi:=O (n+3) (n'+2) (by omega) (by omega) W X b3;rw[b4,b5,G,H] at hi;rcases hi with⟨e,he,g,i,d⟩|⟨f',I,J,g,i,d,u,r⟩
   ·rw[g,i,d,eb,eb,ee (by rw[ey];exact he),ee (by rw[ey];exact he)];exact mj.no he rfl rfl rfl
   ·obtain⟨C,D,K⟩:=u.out (by have:=u.len;omega) (k:=1) (by omega);have C:gP J 1=some (xE ((1:Nat):Int) J):=C;have D:fJ (I:Int) 1=some ((I/2^1:Nat):Int):=D;obtain⟨q,v1,v2,v3,_⟩:=hu.union K (by have:=hu.len;omega) (by have:=K.len;omega);rw[g,i,d,eb,eb,ea nz,ea nz,hR];simp only[];rw[wu r (by omega)]
    rw[Lp r (by omega) _ (λy=>some (y,q,0)) (λy y1 y2 y3=>by
     rw[CF FU y 1 (by rw[fy];omega) (by omega) (by omega) (by omega) y3,cl,C,cl,v1,cl])]
    obtain⟨w,e,hw⟩:∃w e,Cc f'=(w,e):=⟨_,_,rfl⟩;rw[hw,eb]
    by_cases he:e=0
    ·subst he;have t:=JR r (by omega) hs (by rw[hw]);rw[hw] at t;rw[ea nz,ee rfl,jt rfl,D,cl,v2];exact mj.yes rfl rfl rfl v3 t.1 (by have:=t.2;omega)
    ·rw[ee (by rw[ey];exact he),ea he,kg he];exact mj.no he rfl rfl rfl
  ·have j:eV p.gn 1 1=some 3:=j;have o:eT c 1 1=some 3:=o;rw[j,o,cl,cl,ee (by decide),ee (by decide),lD (by omega)];exact mj.no (by decide) rfl rfl rfl
def M8{L:List Fm}{a b:Pf}{N:Nat}(Q:jN L a N)(g:jN L b N):jN L (.mk 15 0 .z [] [] [a,b]) (N+5):=by
 refine jN.of λn n' hn R p c h=>?_;have S:=h.pl.nv;rw[show n'+4=n'+2+2 from rfl,RW,Mz,S8];rcases nG (Q (n+2) (n'+2) (by omega) (by omega) p c h) 7 with⟨e,he,i,j,d⟩|⟨f,m,l,i,j,d,hu,H,C⟩
 ·rw[i,j,eb,ee (by rw[ey];exact he)];rcases d with d|⟨f,l,m,d,C,rfl,_⟩
  ·rw[d,eb,ee (by rw[ey];exact he)];exact mj.no he rfl rfl rfl
  ·rw[d,eb,ea nz,ee (by rw[ey];exact C)];exact mj.no he rfl rfl rfl
 ·obtain⟨s,x,rfl,hs,T⟩:=H.ty.wB C (.inr (.inr (.inr rfl)));have D:=H.sub (x:=x) (by simp) T;rw[i,j,d,eb,eb,ea nz,ea nz,ea (by simp),hR];simp only[Fm.fw,Fm.eG,eU,jA,cl,UC];rcases h.room (v:=1) (k:=1) (by omega) (by omega)with⟨o,r,I,U⟩|⟨o,r,I⟩
  ·have o:eV p.gn 1 1=some 0:=o;have r:eT c 1 1=some 0:=r;rw[o,r,cl,cl,ea nz,ea nz,nx (by omega)];obtain⟨p1,J,V,W,X,K,M⟩:=h.below hs I;obtain⟨Y,E,Z,b2,b3,b4,b5⟩:=X.with (f:=x) (by rw[K];exact D) (by rw[M];simpa using U);rw[V,W,cl,cl,Z,b2,cl,cl];have hi:=g (n+3) (n'+2) (by omega) (by omega) Y E b3;rw[b4,b5,K,M] at hi;rcases hi with⟨e,he,i,j,d⟩|⟨f',B,O,i,j,d,t,u⟩
   ·rw[i,j,d,eb,eb,ee (by rw[ey];exact he),ee (by rw[ey];exact he)];exact mj.no he rfl rfl rfl
   ·obtain⟨F,G,P⟩:=t.out (by have:=t.len;omega) (k:=1) (by omega);have F:gP O 1=some (xE ((1:Nat):Int) O):=F;have G:fJ (B:Int) 1=some ((B/2^1:Nat):Int):=G;obtain⟨q,v1,v2,v3,_⟩:=hu.union P (by have:=hu.len;omega) (by have:=P.len;omega);rw[i,j,d,eb,eb,ea nz,ea nz,hR];simp only[];rw[wu u (by omega)];obtain⟨J,E⟩:=t.has
    rw[Lp u (by omega) _ (λy=>if B.testBit 0=true then some (hY,[],12)else some (y,q,0)) (λy y1 y2 y3=>by
     rw[J,cl,CF FU y 1 (by rw[fy];omega) (by omega) (by omega) (by omega) y3,cl,F,cl,v1,cl])]
    obtain⟨w,e,hw⟩:∃w e,Cc f'=(w,e):=⟨_,_,rfl⟩;rw[hw,eb]
    by_cases he:e=0
    ·subst he;have A:=JR u (by omega) hs (by rw[hw]);rw[hw] at A;rw[ea nz,ee rfl,jt rfl,E]
     by_cases g:B.testBit 0=true
     ·rw[lD g,ee g,ee g];exact mj.no (by decide) rfl rfl rfl
     ·rw[nx g,ea g,ea g,G,cl,v2];exact mj.yes rfl rfl rfl v3 A.1 (by have:=A.2;omega)
    ·rw[ee (by rw[ey];exact he),ea he,kg he];exact mj.no he rfl rfl rfl
  ·have o:eV p.gn 1 1=some 3:=o;have r:eT c 1 1=some 3:=r;rw[o,r,cl,cl,ee (by decide),ee (by decide),lD (by omega)];exact mj.no (by decide) rfl rfl rfl
def iR.nat{g:List Ty}(h:iR g):iR (g++[.nat]):=h.app Ty.hE
def iR.nK{g:List Ty}(h:iR g):iR (g++[.nK]):=h.app Ty.o7
def Ac{g:List Ty}(d:iR g){t:Tm}(f:t.err=0){s:Ty}(hs:s=.nat\/s=.nK)(h:pQ t g s.ab9=0):e_ g t s:=by
 rcases vh f d with⟨e,he,q1,z,j⟩|⟨b,q1,i,a⟩
 ·unfold pQ at h
  grind
 ·unfold pQ at h;rw[q1] at h
  by_cases c:b.ab9=s.ab9
  ·have:b=s:=by
    rcases hs with rfl|rfl
    ·exact(vl a).1 c
    ·exact(CC a).1 c
   rwa [<-this]
  ·grind
def uF{F:Fm}(hF:F.err=0)(a:F.ace 1000000000=true){f c:Nat}(b:f<=100)(d:c<=100):fS F (f:Int) (c:Int)=some (F.up f c)/\hB FU F (f:Int) (c:Int)=some (F.up f c):=by
 obtain⟨a1,a2⟩:=Fm.hV hF;exact⟨uo a1 (by omega) (Fm.mg _ (by omega) a) (by omega) (by omega) (by omega) (by omega),tX FU F f c (by rw[fy];omega) (by omega) (by omega) (by omega) (by omega) (by omega) (Fm.mg _ (by omega) a)⟩
def BB{F:Fm}(hF:F.err=0){f c:Int}(a:0<=f)(b:0<=c):(F.up f c).err=0:=by grind[Fm.hV,Fm.err,Fm.Jd,Fm.rj]
def yp{F:Fm}{f:Int}:F.up f 0=F:=Fm.MM F f
def Z3:ve.err=0:=by decide
def TE:(Tm.mk 7 0 .z []).err=0:=by decide
def X0:(kc v0).err=0:=by decide
def XU:(Tm.mk 8 0 .z [v1,v0]).err=0:=by decide
def P9{L:List Fm}{p:eh}{c:en}(h:PG L p c)(hn:c.acb.length+2<=16):∃b a,f_ p [.nat,.nK]=some b/\fK c [.nat,.nK]=some a/\PG L b a/\a.acb=c.acb++[.nat]++[.nK]/\a.acf=c.acf.map (Fm.up 0 2):=by
 obtain⟨b,a,d,e,f,g,i⟩:=h.RB (l:=[.nat,.nK]) (λx hx=>by
  rcases ma.1 hx with rfl|hx
  ·exact Ty.hE
  ·rw[w4.1 hx];exact Ty.o7) hn
 grind
def Ua(n:Nat)(c:en)(t:Tm)(F:Fm)(a b:Pf):eF (n+2) c (.mk 16 0 .z [t] [F] [a,b])=iL (gS (gr c.acb [.nat])<|cv (k6 (gG c.acb [.nat]) F) λe=>if(eW e 0)=true then some (hY,[],e)else cv (ij c t 1) λf=>if(eW f 0)=true then some (hY,[],f)else cv (gq 4 []) λy=>ek (fA n c a F y) λA g=>if(eW g 0)=true then some (hY,[],g)else cv (eT c 1 1) λh=>if(eW h 0)=true then some (hY,[],h)else cv (fK c [.nat]) λi=>cv (gE i F) λj=>cv (hB FU F 1 1) λk=>cv (gq 5 [v0]) λl=>ek (fA n j b k l) λm d=>if(eW d 0)=true then some (hY,[],d)else ek (jZ F t) λo p=>cv (kM t) λq=>cv (gL q A) λr=>cv (gP m 1) λs=>cv (gL r s) λu=>some (o,u,p)) λv w x=>some (v,w,x):=by
 rw[eF];rw[nL];rfl
def UX(n:Nat)(c:en)(t:Tm)(F:Fm)(a b:Pf):eF (n+2) c (.mk 17 0 .z [t] [F] [a,b])=iL (gS (gr c.acb [.nK])<|cv (k6 (gG c.acb [.nK]) F) λe=>if(eW e 0)=true then some (hY,[],e)else cv (ij c t 2) λf=>if(eW f 0)=true then some (hY,[],f)else cv (gq 7 []) λA=>ek (fA n c a F A) λB g=>if(eW g 0)=true then some (hY,[],g)else cv (eT c 2 1) λh=>if(eW h 0)=true then some (hY,[],h)else cv (fK c [.nat,.nK]) λi=>cv (hB FU F 1 1) λj=>cv (gE i j) λk=>cv (hB FU F 1 2) λl=>cv (gq 8 [v1,v0]) λm=>ek (fA n k b l m) λo d=>if(eW d 0)=true then some (hY,[],d)else ek (jZ F t) λp q=>cv (kM t) λr=>cv (gL r B) λs=>cv (gP o 2) λu=>cv (gL s u) λv=>some (p,v,q)) λw x y=>some (w,x,y):=by
 rw[eF];rw[mu];rfl
def Pv(L:List Fm)(t:Tm)(F:Fm)(a b:Pf)(g:List Ty)(hs:List Fm):qs L 16 0 .z [t] [F] (Pf.uC L [a,b]) g hs=lC (F.vw (g++[.nat])) (lC (pQ t g 1) (pbind (IZ (a.inf L g hs) F ve) λ_ m=>vZ (16<g.length+1\/16<hs.length+1) 3 (pbind (IZ (b.inf L (g++[.nat]) (hs.map (Fm.up 0 1)++[F])) (F.up 1 1) (kc v0)) λ_ n=>lC (oe F t).2 (.inl ((oe F t).1,(q4 t|||m)|||n/2))))):=rfl
def O3(L:List Fm)(t:Tm)(F:Fm)(a b:Pf)(g:List Ty)(hs:List Fm):qs L 17 0 .z [t] [F] (Pf.uC L [a,b]) g hs=lC (F.vw (g++[.nK])) (lC (pQ t g 2) (pbind (IZ (a.inf L g hs) F (.mk 7 0 .z [])) λ_ m=>vZ (16<g.length+2\/16<hs.length+1) 3 (pbind (IZ (b.inf L (g++[.nat]++[.nK]) (hs.map (Fm.up 0 2)++[F.up 1 1])) (F.up 1 2) (.mk 8 0 .z [v1,v0])) λ_ n=>lC (oe F t).2 (.inl ((oe F t).1,(q4 t|||m)|||n/4))))):=rfl
def TK(n:Nat)(L:List Fm)(t:Tm)(F:Fm)(a b:Pf)(p:eh):qS (n+1) L (.mk 16 0 .z [t] [F] [a,b]) p=cv (gH p.acb [.nat]) λs=>cv (eX FU s F) λd=>if(eW d 0)=true then some (⟨hY,0⟩,d)else cv (iT p.acb t 1) λe=>if(eW e 0)=true then some (⟨hY,0⟩,e)else ek (fi n L a p F ve) λu f=>if(eW f 0)=true then some (⟨hY,0⟩,f)else cv (eV p.gn 1 1) λg=>if(eW g 0)=true then some (⟨hY,0⟩,g)else cv (f_ p [.nat]) λh=>cv (fS F 1 (fD .i64 1 1)) λi=>cv (gm h i) λj=>cv (fS F 1 1) λk=>ek (fi n L b j k (kc v0)) λl c=>if(eW c 0)=true then some (⟨hY,0⟩,c)else ek (jl F t) λm o=>cv (kA t) λq=>cv (fJ l.gi 1) λr=>some (⟨m,xj .u32 (xj .u32 q u.gi) r⟩,o):=by
 rfl
def Up(n:Nat)(L:List Fm)(t:Tm)(F:Fm)(a b:Pf)(p:eh):qS (n+1) L (.mk 17 0 .z [t] [F] [a,b]) p=cv (gH p.acb [.nK]) λs=>cv (eX FU s F) λd=>if(eW d 0)=true then some (⟨hY,0⟩,d)else cv (iT p.acb t 2) λe=>if(eW e 0)=true then some (⟨hY,0⟩,e)else ek (fi n L a p F (.mk 7 0 .z [])) λu f=>if(eW f 0)=true then some (⟨hY,0⟩,f)else cv (eV p.gn 2 1) λg=>if(eW g 0)=true then some (⟨hY,0⟩,g)else cv (f_ p [.nat,.nK]) λh=>cv (fS F 1 (fD .i64 2 1)) λi=>cv (gm h i) λj=>cv (fS F 1 2) λk=>ek (fi n L b j k (.mk 8 0 .z [v1,v0])) λl c=>if(eW c 0)=true then some (⟨hY,0⟩,c)else ek (jl F t) λm o=>cv (kA t) λq=>cv (fJ l.gi 2) λr=>some (⟨m,xj .u32 (xj .u32 q u.gi) r⟩,o):=by
 rfl
def Og{L:List Fm}{t:Tm}(g:t.err=0){F:Fm}(hF:F.err=0){a b:Pf}{N:Nat}(ha:jN L a N)(hb:jN L b N):jN L (.mk 16 0 .z [t] [F] [a,b]) (N+5):=by
 refine jN.of λn n' hn aa p c h=>?_;have j:=h.pl.nv;have H:=h.pl.ctx;have ab:=(Fm.hV hF).2;obtain⟨t1,t2,_⟩:=s6 H.nat (by simp;omega) hF;obtain⟨s1,s2⟩:=has_both H j rfl g 1;rw[show n'+4=n'+2+2 from rfl,Ua,Pv,TK,h.pl.acb,sA Ty.hE (by omega),cl,t1,cl,fx (by simp;omega),eo,gY,t2,cl,s1,s2,cl,cl]
 by_cases o:F.vw (c.acb++[.nat])=0
 ·have r:=o;rw[<-w7 (a:=_=_),<-ne_eq,<-ey] at r;rw[ea r,ea r,jt o];have d:=rV F (Fm.hV hF).1 _ H.nat o;have s:F.ace 1000000000=true:=d.ace _ (by simp;omega)
  by_cases u:pQ t c.acb 1=0
  ·have r:=u;rw[<-w7 (a:=_=_),<-ne_eq,<-ey] at r;rw[ea r,ea r,jt u];have E:e_ c.acb t .nat:=Ac H g (.inl rfl) u;have K:sU c.acb F ve:=⟨hF,Z3,.nat,d,.zero⟩;rw[show gq 4 []=some ve from Gr,cl];rcases sY j (ha (n+2) (n'+1) (by omega) (by omega) p c h) K with⟨e,z,l,m,he,i,x,y,hu⟩|⟨f,m,l,i,x,y,hu⟩
   ·rw[i,x,y,eb,eb,ee (by rw[ey];exact he),ee (by rw[ey];exact he)];exact mj.no he rfl rfl rfl
   ·rw[i,x,y,eb,eb,ea nz,ea nz,hR];rcases h.room (v:=1) (k:=1) (by omega) (by omega)with⟨A,B,W,r4⟩|⟨A,B,W⟩
    ·have A:eV p.gn 1 1=some 0:=A;have B:eT c 1 1=some 0:=B;rw[A,B,cl,cl,ea nz,ea nz,nx (by omega)];obtain⟨p1,c1,e1,e2,e3,I,M⟩:=h.below Ty.hE W;obtain⟨p2,J,b1,b2,X,O,Y⟩:=e3.with (f:=F) (by rw[I];exact⟨hF,d⟩) (by rw[M];simpa using r4)
     have l1:fS F 1 (fD .i64 1 1)=some F:=by
      rw[fH (by omega) (by omega)];have:=(uF hF s (f:=1) (c:=0) (by omega) (by omega)).1;rw[show F.up ((1:Nat):Int) ((0:Nat):Int)=F from yp] at this;exact this
     have l2:fS F 1 1=some (F.up 1 1):=(uF hF s (f:=1) (c:=1) (by omega) (by omega)).1;have l3:hB FU F 1 1=some (F.up 1 1):=(uF hF s (f:=1) (c:=1) (by omega) (by omega)).2;rw[e1,e2,cl,cl,l1,cl,b1,b2,cl,cl,l2,l3,cl,cl];rw[show gq 5 [v0]=some (kc v0)from Jz (by decide),cl];have hi:=hb (n+2) (n'+1) (by omega) (by omega) p2 J X;have P:J.acb.length<=16:=X.pl.nv
     have G:J.acb=c.acb++[.nat]:=by rw[O,I]
     have Q:sU J.acb (F.up 1 1) (kc v0):=⟨BB hF (by omega) (by omega),X0,.nat,by
      rw[G];have:=d.up c.acb [.nat] [.nat] rfl
      simpa using this,by rw[G];exact .succ vA⟩
     rcases sY P hi Q with⟨e,z,R,S,he,i,x,y,C⟩|⟨f',S,R,i,x,y,C⟩
     ·rw[O,Y,I,M] at i;rw[i,x,y,eb,eb,ee (by rw[ey];exact he),ee (by rw[ey];exact he)];exact mj.no he rfl rfl rfl
     ·rw[O,Y,I,M] at i;obtain⟨lf,f1,f2,f3⟩:=xT j E g;have D:sU c.acb F t:=⟨hF,g,.nat,d,E⟩;obtain⟨T,U,Z⟩:=C.out (by have:=C.len;omega) (k:=1) (by omega);have T:gP R 1=some (xE ((1:Nat):Int) R):=T;have U:fJ (S:Int) 1=some ((S/2^1:Nat):Int):=U;obtain⟨q,v1,v2,v3,_⟩:=f3.union hu (by have:=f3.len;omega) (by have:=hu.len;omega);obtain⟨q',w1,w2,w3,_⟩:=v3.union Z (by have:=v3.len;omega) (by have:=Z.len;omega);rw[i,x,y,eb,eb,ea nz,ea nz,hR,(D.both (by omega)).1,(D.both (by omega)).2];obtain⟨w,e,hw⟩:∃w e,oe F t=(w,e):=⟨_,_,rfl⟩;rw[hw,eb,eb,f1,f2,cl,cl,U,v1,cl,cl,T,cl,w1,cl];simp only[];rw[v2,w2];rcases p7 F t with V|⟨ad,V⟩
      ·rw[V] at hw;obtain⟨rfl,rfl⟩:=iz hw;rw[kg (by decide)];exact mj.no (by decide) rfl rfl rfl
      ·rw[V] at hw;obtain⟨rfl,rfl⟩:=iz hw;rw[jt rfl];exact mj.yes (f:=Fm.jX 0 F t) rfl rfl rfl w3 D.put (by omega)
    ·have A:eV p.gn 1 1=some 3:=A;have B:eT c 1 1=some 3:=B;rw[A,B,cl,cl,ee (by decide),ee (by decide),lD (by omega)];exact mj.no (by decide) rfl rfl rfl
  ·rw[ee (by rw[ey];exact u),ee (by rw[ey];exact u),kg u];exact mj.no u rfl rfl rfl
 ·rw[ee (by rw[ey];exact o),ee (by rw[ey];exact o),kg o];exact mj.no o rfl rfl rfl
def Oy{L:List Fm}{t:Tm}(g:t.err=0){F:Fm}(hF:F.err=0){a b:Pf}{N:Nat}(ha:jN L a N)(hb:jN L b N):jN L (.mk 17 0 .z [t] [F] [a,b]) (N+5):=by
 refine jN.of λn n' hn aa p c h=>?_;have o:=h.pl.nv;have H:=h.pl.ctx;have ab:=(Fm.hV hF).2;obtain⟨t1,t2,_⟩:=s6 H.nK (by simp;omega) hF;obtain⟨s1,s2⟩:=has_both H o rfl g 2;rw[show n'+4=n'+2+2 from rfl,UX,O3,Up,h.pl.acb,sA Ty.o7 (by omega),cl,t1,cl,fx (by simp;omega),eo,gY,t2,cl,s1,s2,cl,cl]
 by_cases r:F.vw (c.acb++[.nK])=0
 ·have s:=r;rw[<-w7 (a:=_=_),<-ne_eq,<-ey] at s;rw[ea s,ea s,jt r];have d:=rV F (Fm.hV hF).1 _ H.nK r;have i:F.ace 1000000000=true:=d.ace _ (by simp;omega)
  by_cases u:pQ t c.acb 2=0
  ·have s:=u;rw[<-w7 (a:=_=_),<-ne_eq,<-ey] at s;rw[ea s,ea s,jt u];have E:e_ c.acb t .nK:=Ac H g (.inr rfl) u;have K:sU c.acb F (.mk 7 0 .z []):=⟨hF,TE,.nK,d,.nil⟩;rw[show gq 7 []=some (.mk 7 0 .z [])from Gr,cl];rcases sY o (ha (n+2) (n'+1) (by omega) (by omega) p c h) K with⟨e,z,l,m,he,j,x,y,hu⟩|⟨f,m,l,j,x,y,hu⟩
   ·rw[j,x,y,eb,eb,ee (by rw[ey];exact he),ee (by rw[ey];exact he)];exact mj.no he rfl rfl rfl
   ·rw[j,x,y,eb,eb,ea nz,ea nz,hR];rcases h.room (v:=2) (k:=1) (by omega) (by omega)with⟨A,B,W,r4⟩|⟨A,B,W⟩
    ·have A:eV p.gn 2 1=some 0:=A;have B:eT c 2 1=some 0:=B;rw[A,B,cl,cl,ea nz,ea nz,nx (by omega)];obtain⟨p1,c1,e1,e2,e3,I,M⟩:=P9 h W;obtain⟨p2,J,b1,b2,X,O,Y⟩:=e3.with (f:=F.up 1 1) (by rw[I];exact⟨BB hF (by omega) (by omega),by have:=d.up c.acb [.nK] [.nat] rfl;simpa using this⟩) (by rw[M];simpa using r4)
     have l1:fS F 1 (fD .i64 2 1)=some (F.up 1 1):=by
      rw[fH (by omega) (by omega)];exact(uF hF i (f:=1) (c:=1) (by omega) (by omega)).1
     have l2:fS F 1 2=some (F.up 1 2):=(uF hF i (f:=1) (c:=2) (by omega) (by omega)).1;have l3:hB FU F 1 1=some (F.up 1 1):=(uF hF i (f:=1) (c:=1) (by omega) (by omega)).2;have l4:hB FU F 1 2=some (F.up 1 2):=(uF hF i (f:=1) (c:=2) (by omega) (by omega)).2;rw[e1,e2,cl,cl,l1,cl,l3,cl,b1,b2,cl,cl,l2,l4,cl,cl];rw[show gq 8 [v1,v0]=some (.mk 8 0 .z [v1,v0])from tR (by decide) (by decide),cl];have hi:=hb (n+2) (n'+1) (by omega) (by omega) p2 J X;have P:J.acb.length<=16:=X.pl.nv
     have G:J.acb=c.acb++[.nat]++[.nK]:=by rw[O,I]
     have Q:sU J.acb (F.up 1 2) (.mk 8 0 .z [v1,v0]):=⟨BB hF (by omega) (by omega),XU,.nK,by
      rw[G];have:=d.up c.acb [.nK] [.nat,.nK] rfl
      simpa using this,by rw[G];exact .cons Gb vA⟩
     rcases sY P hi Q with⟨e,z,R,S,he,j,x,y,C⟩|⟨f',S,R,j,x,y,C⟩
     ·rw[O,Y,I,M] at j;rw[j,x,y,eb,eb,ee (by rw[ey];exact he),ee (by rw[ey];exact he)];exact mj.no he rfl rfl rfl
     ·rw[O,Y,I,M] at j;obtain⟨lf,f1,f2,f3⟩:=xT o E g;have D:sU c.acb F t:=⟨hF,g,.nK,d,E⟩;obtain⟨T,U,Z⟩:=C.out (by have:=C.len;omega) (k:=2) (by omega);have T:gP R 2=some (xE ((2:Nat):Int) R):=T;have U:fJ (S:Int) 2=some ((S/2^2:Nat):Int):=U;obtain⟨q,v1,v2,v3,_⟩:=f3.union hu (by have:=f3.len;omega) (by have:=hu.len;omega);obtain⟨q',w1,w2,w3,_⟩:=v3.union Z (by have:=v3.len;omega) (by have:=Z.len;omega);rw[j,x,y,eb,eb,ea nz,ea nz,hR,(D.both (by omega)).1,(D.both (by omega)).2];obtain⟨w,e,hw⟩:∃w e,oe F t=(w,e):=⟨_,_,rfl⟩;rw[hw,eb,eb,f1,f2,cl,cl,U,v1,cl,cl,T,cl,w1,cl];simp only[];rw[v2,w2];rcases p7 F t with V|⟨ad,V⟩
      ·rw[V] at hw;obtain⟨rfl,rfl⟩:=iz hw;rw[kg (by decide)];exact mj.no (by decide) rfl rfl rfl
      ·rw[V] at hw;obtain⟨rfl,rfl⟩:=iz hw;rw[jt rfl];exact mj.yes (f:=Fm.jX 0 F t) rfl rfl rfl w3 D.put (by omega)
    ·have A:eV p.gn 2 1=some 3:=A;have B:eT c 2 1=some 3:=B;rw[A,B,cl,cl,ee (by decide),ee (by decide),lD (by omega)];exact mj.no (by decide) rfl rfl rfl
  ·rw[ee (by rw[ey];exact u),ee (by rw[ey];exact u),kg u];exact mj.no u rfl rfl rfl
 ·rw[ee (by rw[ey];exact r),ee (by rw[ey];exact r),kg r];exact mj.no r rfl rfl rfl
def Tm.tA{t:Tm}(h:t.ok=true)(hn:t.ab'<=4096):t.err=0:=by
 unfold Tm.err;rw[ee h,ea (by omega)]
def WI(n:Nat)(c:en)(t:Tm):eF (n+1) c (.mk 18 0 .z [t] [] [])=cv (ml t t) λa=>cv (ij c t 1) λb=>some (a,[],b):=by rw[eF];rfl
def Oo(L:List Fm)(t:Tm)(g:List Ty)(hs:List Fm):qs L 18 0 .z [t] [] (Pf.uC L []) g hs=lC (pQ t g 1) (.inl (.mk 1 .z [t,t] [],0)):=rfl
def WD(n:Nat)(L:List Fm)(t:Tm)(p:eh):qS n L (.mk 18 0 .z [t] [] []) p=cv (iK p.acb t) λa=>if(eW a 0)=true then some (⟨hY,0⟩,a)else some (⟨.mk 1 .z [t,t] [],0⟩,0):=rfl
def Qk{L:List Fm}{t:Tm}(a:t.err=0):jN L (.mk 18 0 .z [t] [] []) 5:=by
 refine jN.of (N:=0) λn n' _ _ p c h=>?_;have e:=h.pl.nv;have f:=h.pl.ctx;obtain⟨a1,a2⟩:=Tm.hV a;have hw:=t.jF a1;rw[show n'+4=n'+3+1 from rfl,WI,Oo,WD,h.pl.acb,xP a1 f (by omega),(has_both f e rfl a 1).2,En (by omega) (by omega),cl,cl,cl]
 by_cases b:pQ t c.acb 1=0
 ·have d:e_ c.acb t .nat:=Ac f a (.inl rfl) b;rw[ea (by rw[ey];simpa using b),jt b,b];refine mj.yes rfl rfl rfl .nil (.eq d d) ?_;rw[Fm.ef];simp only[eE];omega
 ·rw[ee (by rw[ey];exact b),kg b];exact mj.no b rfl rfl rfl
def TU(n:Nat)(c:en)(F:Fm)(a b:Pf):eF (n+2) c (.mk 19 0 .z [] [F] [a,b])=iL (gS (gr c.acb [.nat])<|cv (k6 (gG c.acb [.nat]) F) λh=>if(eW h 0)=true then some (hY,[],h)else ek (eL n c a) λg i=>if(eW i 0)=true then some (hY,[],i)else if(eW g.eg.ab9 1)=true then some (hY,[],10)else cv (eJ g.eg.ej 0) λo=>ek (fA n c b F o) λp j=>if(eW j 0)=true then some (hY,[],j)else cv (eJ g.eg.ej 1) λk=>ek (jZ F k) λl m=>some (l,p,m)) λd e f=>some (d,e,f):=by
 rw[eF];show iL (mm (n+1) c (.mk 19 0 .z [] [F] [a,b])) (λd e f=>some (d,e,f))=_;rw[mm,fI];rfl
def OU(L:List Fm)(F:Fm)(a b:Pf)(g:List Ty)(hs:List Fm):qs L 19 0 .z [] [F] (Pf.uC L [a,b]) g hs=lC (F.vw (g++[.nat])) (pbind (Dg (a.inf L g hs) 1) λa _=>pbind (IZ (b.inf L g hs) F (a.ej.getD 0 Tm.z)) λ_ n=>lC (oe F (a.ej.getD 1 Tm.z)).2 (.inl ((oe F (a.ej.getD 1 Tm.z)).1,n))):=rfl
def Ui(n:Nat)(L:List Fm)(F:Fm)(a b:Pf)(p:eh):qS (n+1) L (.mk 19 0 .z [] [F] [a,b]) p=cv (gH p.acb [.nat]) λj=>cv (eX FU j F) λc=>if(eW c 0)=true then some (⟨hY,0⟩,c)else ek (fh n L a p 1) λd e=>if(eW e 0)=true then some (⟨hY,0⟩,e)else cv (eJ d.eg.ej 0) λk=>ek (fi n L b p F k) λl f=>if(eW f 0)=true then some (⟨hY,0⟩,f)else cv (eJ d.eg.ej 1) λg=>ek (jl F g) λh i=>some (⟨h,l.gi⟩,i):=by
 show kv (n+1) L (.mk 19 0 .z [] [F] [a,b]) p=_;rw[kv,qy];rfl
def Oj{L:List Fm}{F:Fm}(hF:F.err=0){a b:Pf}{N:Nat}(E:jN L a N)(G:jN L b N):jN L (.mk 19 0 .z [] [F] [a,b]) (N+5):=by
 refine jN.of λn n' hn H p c h=>?_;have r:=h.pl.nv;have B:=h.pl.ctx;have I:=(Fm.hV hF).2;obtain⟨t1,t2,_⟩:=s6 B.nat (by simp;omega) hF;rw[show n'+4=n'+2+2 from rfl,TU,OU,Ui,h.pl.acb,sA Ty.hE (by omega),cl,t1,cl,fx (by simp;omega),eo,gY,t2,cl]
 by_cases i:F.vw (c.acb++[.nat])=0
 ·have s:=i;rw[<-w7 (a:=_=_),<-ne_eq,<-ey] at s;rw[ea s,ea s,jt i];have g:=rV F (Fm.hV hF).1 _ B.nat i;rcases nG (E (n+2) (n'+2) (by omega) (by omega) p c h) 1 with⟨e,he,j,k,d⟩|⟨f,m,l,j,k,d,hu,C,t⟩
  ·rw[j,k,eb,ee (by rw[ey];exact he)];rcases d with d|⟨f,l,m,d,t,rfl,_⟩
   ·rw[d,eb,ee (by rw[ey];exact he)];exact mj.no he rfl rfl rfl
   ·rw[d,eb,ea nz,ee (by rw[ey];exact t)];exact mj.no he rfl rfl rfl
  ·obtain⟨x,y,rfl,D,hy⟩:=C.ty.Vv t;have q:=C.ab';rw[Fm.ef] at q;simp only[eE] at q;have u:x.err=0:=Tm.tA D.ok (by omega);have v:y.err=0:=Tm.tA hy.ok (by omega);have w:sU c.acb F x:=⟨hF,u,.nat,g,D⟩;have o:sU c.acb F y:=⟨hF,v,.nat,g,hy⟩;rw[j,k,d,eb,eb,ea nz,ea nz,ea (by simp),hR];simp only[Fm.hJ,eU,gz,jA,mP,cl,UC,T0];rcases sY r (G (n+2) (n'+1) (by omega) (by omega) p c h) w with⟨e,z,l,m,he,j,k,d,hu⟩|⟨f,m,l,j,k,d,hu⟩
   ·rw[j,k,d,eb,eb,ee (by rw[ey];exact he),ee (by rw[ey];exact he)];exact mj.no he rfl rfl rfl
   ·rw[j,k,d,eb,eb,ea nz,ea nz,hR,(o.both (by omega)).1,(o.both (by omega)).2];rcases p7 F y with A|⟨J,A⟩
    ·rw[A,eb,eb,kg (by decide)];exact mj.no (by decide) rfl rfl rfl
    ·rw[A,eb,eb,jt rfl];exact mj.yes (f:=Fm.jX 0 F y) rfl rfl rfl hu o.put (by omega)
 ·rw[ee (by rw[ey];exact i),ee (by rw[ey];exact i),kg i];exact mj.no i rfl rfl rfl
def Yx(f:Fm)(l:List Int):Option (Fm×List Int×Int):=
 eK (λ(d:Bool)=>if d=true then some (hY,[],10)else cv (eJ f.ab_ 0) λa=>cv (lx f.dv a.dv) λb=>cv (jH b) λe=>if(eW e 0)=true then some (hY,[],4)else cv (eJ a.ab_ 0) λg=>cv (hB FU g 2 1) λh=>cv (gq 3 [v1,v0]) λi=>ek (jZ h i) λj k=>cv (kh 4 f.dv j) λm=>cv (kh 5 b m) λn=>some (n,l,k)) λc=>if(eW f.ab9 4)=true then c true else cv (eJ f.ab_ 0) λo=>c (eW o.ab9 5)
def T'{f:Fm}{l:List Int}(h:f.ab9≠4):Yx f l=some (hY,[],10):=by
 have a:eW f.ab9 4=true:=by rw[ey];exact h
 unfold Yx;rw[ez,ee a];rfl
def TT{s:Ty}{x:Fm}{l:List Int}(h:x.ab9≠5):Yx (.mk 4 s [] [x]) l=some (hY,[],10):=by
 have o:eW x.ab9 5=true:=by rw[ey];exact h
 have e:Yx (.mk 4 s [] [x]) l=(λ(c:Bool)=>if c=true then some (hY,[],10)else cv (eJ [x] 0) λa=>cv (lx s a.dv) λb=>cv (jH b) λd=>if(eW d 0)=true then some (hY,[],4)else cv (eJ a.ab_ 0) λf=>cv (hB FU f 2 1) λg=>cv (gq 3 [v1,v0]) λi=>ek (jZ g i) λj k=>cv (kh 4 s j) λm=>cv (kh 5 b m) λn=>some (n,l,k)) (eW x.ab9 5):=rfl;rw[e,o];rfl
def aap{s u:Ty}{y:Fm}{l:List Int}:Yx (.mk 4 s [] [.mk 5 u [] [y]]) l=cv (lx s u) λa=>cv (jH a) λb=>if(eW b 0)=true then some (hY,[],4)else cv (hB FU y 2 1) λc=>cv (gq 3 [v1,v0]) λd=>ek (jZ c d) λe f=>cv (kh 4 s e) λg=>cv (kh 5 a g) λh=>some (h,l,f):=rfl
def SO(n:Nat)(c:en)(a:Pf):eF (n+2) c (.mk 20 0 .z [] [] [a])=iL (ek (eL n c a) λf g=>if(eW g 0)=true then some (hY,[],g)else Yx f.eg f.gi) λb d e=>some (b,d,e):=by
 rw[eF];show iL (lR (n+1) c (.mk 20 0 .z [] [] [a])) (λb d e=>some (b,d,e))=_;rw[lR];rfl
def MW(L:List Fm)(a:Pf)(g:List Ty)(hs:List Fm):qs L 20 0 .z [] [] (Pf.uC L [a]) g hs=pbind (Dg (a.inf L g hs) 4) λa m=>vZ ((a.ab_.getD 0 hY).ab9≠5) 10 (vZ ((Ty.fn a.dv (a.ab_.getD 0 hY).dv).err≠0) 4 (vZ ((oe (((a.ab_.getD 0 hY).ab_.getD 0 hY).up 2 1) (iV v1 v0)).2≠0) 4 (.inl (.mk 5 (Ty.fn a.dv (a.ab_.getD 0 hY).dv) [] [.mk 4 a.dv [] [(oe (((a.ab_.getD 0 hY).ab_.getD 0 hY).up 2 1) (iV v1 v0)).1]],m)))):=rfl
def Y7(f:Fm)(u:Int):Option (ec×Int):=
 cv (eJ f.ab_ 0) λa=>if(eW a.ab9 5)=true then some (⟨hY,0⟩,10)else cv (pD a.dv [f.dv]) λb=>cv (eJ a.ab_ 0) λd=>cv (fS d 2 1) λe=>cv (iN 1) λg=>cv (iN 0) λh=>cv (sh g [h]) λi=>ek (jl e i) λj k=>eK (λ(l:Bool)=>if l=true then some (⟨hY,0⟩,4)else cv (ki 4 f.dv j) λm=>cv (ki 5 b m) λn=>some (⟨n,u⟩,0)) λc=>if(eW k 0)=true then c true else cv (mM b) λo=>c (eW o 0)
def T2{s:Ty}{x:Fm}{u:Int}(h:x.ab9≠5):Y7 (.mk 4 s [] [x]) u=some (⟨hY,0⟩,10):=by
 have a:eW x.ab9 5=true:=by rw[ey];exact h
 unfold Y7;simp only[Fm.eG,eU,jA,cl];rw[ee a]
def Sy(n:Nat)(L:List Fm)(a:Pf)(p:eh):qS (n+1) L (.mk 20 0 .z [] [] [a]) p=ek (fh n L a p 4) λb c=>if(eW c 0)=true then some (⟨hY,0⟩,c)else Y7 b.eg b.gi:=by
 show j0 (n+1) L (.mk 20 0 .z [] [] [a]) p=_;rw[j0];simp only[Pf.eG,eU,jA,cl];rfl
def aac{s u:Ty}{y b:Fm}{m:Int}{q:Fm×Int}(v:fS y 2 1=some b)(x:jl b (iV v1 v0)=some q)(z:mM (.fn s u)=some (Ty.fn s u).err):Y7 (.mk 4 s [] [.mk 5 u [] [y]]) m=if q.2=0/\(Ty.fn s u).err=0 then some (⟨.mk 5 (.fn s u) [] [.mk 4 s [] [q.1]],m⟩,0)else some (⟨hY,0⟩,4):=by
 obtain⟨w,e⟩:=q
 have A:Y7 (.mk 4 s [] [.mk 5 u [] [y]]) m=cv (pD u [s]) λa=>cv (fS y 2 1) λf=>cv (iN 1) λg=>cv (iN 0) λi=>cv (sh g [i]) λj=>ek (jl f j) λk l=>eK (λ(n:Bool)=>if n=true then some (⟨hY,0⟩,4)else cv (ki 4 s k) λo=>cv (ki 5 a o) λp=>some (⟨p,m⟩,0)) λc=>if(eW l 0)=true then c true else cv (mM a) λr=>c (eW r 0):=by
  rfl
 rw[A,PH,cl,v,cl,show iN 1=some v1 from rfl,cl,show iN 0=some v0 from rfl,cl,CZ,cl,show Tm.mk 3 0 (.mk 0 []) [v1,v0]=iV v1 v0 from rfl,x,eb,ez,z,cl]
 by_cases he:e=0
 ·subst he;rw[ea nz]
  by_cases d:(Ty.fn s u).err=0
  ·have t:eW (Ty.fn s u).err 0=false:=by rw[d];rfl
   rw[t,ee ⟨rfl,d⟩];rfl
  ·have t:eW (Ty.fn s u).err 0=true:=by rw[ey];exact d
   rw[t,ea (λh=>d h.2)];rfl
 ·rw[ee (by rw[ey];exact he),ea (λh=>he h.1)];rfl
def Mr{L:List Fm}{a:Pf}{N:Nat}(E:jN L a N):jN L (.mk 20 0 .z [] [] [a]) (N+5):=by
 refine jN.of λn n' hn F p c h=>?_;have G:=h.pl.nv;rw[show n'+4=n'+2+2 from rfl,SO,MW,Sy];rcases nG (E (n+2) (n'+2) (by omega) (by omega) p c h) 4 with⟨e,he,k,o,i⟩|⟨f,m,l,k,o,i,hu,C,r⟩
 ·rw[k,o,eb,ee (by rw[ey];exact he)];rcases i with i|⟨f,l,m,i,r,rfl,_⟩
  ·rw[i,eb,ee (by rw[ey];exact he)];exact mj.no he rfl rfl rfl
  ·rw[i,eb,ea nz,T' r];exact mj.no he rfl rfl rfl
 ·obtain⟨s,x,rfl,hs,D⟩:=C.ty.wB r (.inl rfl);have t:=C.sub (x:=x) (by simp) D;rw[k,o,i,eb,eb,ea nz,ea nz,hR]
  by_cases d:x.ab9=5
  ·obtain⟨u,y,rfl,v,hy⟩:=D.wB d (.inr (.inl rfl));have g:=t.sub (x:=y) (by simp) hy;have H:=fC hs;have I:=fC v;have J:=g.ab'
   have K:(Ty.fn s u).ab'<=1000:=by rw[Ty.j3];omega
   have j:y.ace 1000000000=true:=hy.ace _ (by simp;omega);have M:fS y 2 1=some (y.up 2 1):=(uF g.err j (f:=2) (c:=1) (by omega) (by omega)).1;have O:hB FU y 2 1=some (y.up 2 1):=(uF g.err j (f:=2) (c:=1) (by omega) (by omega)).2
   have w:sU (c.acb++[.fn s u]++[s]) (y.up 2 1) (iV v1 v0):=⟨BB g.err (by omega) (by omega),by decide,u,by
    have:=hy.up c.acb [s,u] [.fn s u] (by simp)
    simpa using this,.app Gb vA⟩
   obtain⟨P,Q⟩:=w.both (by simp;omega);have R:=Om;have hw:=Fm.jF _ w.put.ok;simp only[Fm.eG,Fm.fw,Fm.eN,UC];rw[nx (by decide),aac M P (zC (by omega)),aap,jx (by omega) (by omega),cl,m4 (by omega),cl]
   by_cases b:(Ty.fn s u).err=0
   ·have A:¬eW (Ty.fn s u).err 0=true:=by rw[ey];simpa using b
    rw[ea A,nx (by simpa using b),O,cl,show gq 3 [v1,v0]=some (iV v1 v0)from tR (by decide) (by decide),cl,Q];rcases p7 (y.up 2 1) (iV v1 v0)with B|⟨S,B⟩
    ·rw[B,ea (λh=>by cases h.1),eb,lD (by decide),D8 (by omega) (by omega),cl];rw[D8 (by omega) (by rw[Fm.fP];simp only[eE];omega),cl];exact mj.no (by decide) rfl rfl rfl
    ·rw[B,ee ⟨rfl,b⟩,eb,nx (λh=>h rfl),D8 (by omega) (by omega),cl];rw[D8 (by omega) (by rw[Fm.fP];simp only[eE];omega),cl];refine mj.yes (f:=.mk 5 (.fn s u) [] [.mk 4 s [] [Fm.jX 0 (y.up 2 1) (iV v1 v0)]]) rfl rfl rfl hu (.q (.inr (.inl rfl)) b (.q (.inl rfl) hs w.put)) ?_;rw[Fm.ef];simp only[eE];rw[Fm.ef];simp only[eE];omega
   ·have A:eW (Ty.fn s u).err 0=true:=by rw[ey];exact b
    rw[ee A,lD b,ea (λh=>b h.2)];exact mj.no (by decide) rfl rfl rfl
  ·simp only[Fm.eG,UC];rw[T2 d,TT d,lD d];exact mj.no (by decide) rfl rfl rfl
inductive y7:Pf->Prop
 |hyp {i}:0<=i->y7 (.mk 1 i .z [] [] [])|HU {i}:0<=i->y7 (.mk 2 i .z [] [] [])|NM {a b}:y7 a->y7 b->y7 (.mk 3 0 .z [] [] [a,b])|and {k a}:k=4\/k=5->y7 a->y7 (.mk k 0 .z [] [] [a])|Ou {F a}:F.err=0->y7 a->y7 (.mk 6 0 .z [] [F] [a])|NH {a b}:y7 a->y7 b->y7 (.mk 7 0 .z [] [] [a,b])|all {k s a}:k=8\/k=12->s.err=0->y7 a->y7 (.mk k 0 s [] [] [a])|T3 {k t a}:k=9\/k=13->t.err=0->y7 a->y7 (.mk k 0 .z [t] [] [a])|ex {k t F a}:k=10\/k=14->t.err=0->F.err=0->y7 a->y7 (.mk k 0 .z [t] [F] [a])|Uc {k a b}:k=11\/k=15->y7 a->y7 b->y7 (.mk k 0 .z [] [] [a,b])|ind {k t F a b}:k=16\/k=17->t.err=0->F.err=0->y7 a->y7 b->y7 (.mk k 0 .z [t] [F] [a,b])|refl {t}:t.err=0->y7 (.mk 18 0 .z [t] [] [])|subst {F a b}:F.err=0->y7 a->y7 b->y7 (.mk 19 0 .z [] [F] [a,b])|choice {a}:y7 a->y7 (.mk 20 0 .z [] [] [a])
mutual
def Pf.yV:Pf->Nat
 |.mk _ _ _ _ _ l=>1+Pf.v_ l
def Pf.v_:List Pf->Nat
 |[]=>0|p::l=>p.yV+Pf.v_ l
end
theorem jN.mono{L:List Fm}{P:Pf}{N M:Nat}(h:jN L P N)(a:N<=M):jN L P M:=λn n' b c=>h n n' (by omega) (by omega)
def Sv{L:List Fm}{P:Pf}(h:y7 P):jN L P (5*P.yV):=by
 induction h with
 |hyp hi=>exact Sz hi|HU hi=>exact Tp hi|NM _ _ a b=>exact(P' (a.mono (SI _ _)) (b.mono (TF _ _))).mono (by simp only[Pf.yV,Pf.v_];omega)|and c _ a=>
  rcases c with rfl|rfl
  ·exact(PJ a).mono (by simp only[Pf.yV,Pf.v_];omega)
  ·exact(QM a).mono (by simp only[Pf.yV,Pf.v_];omega)
 |Ou hF _ a=>exact(Qr hF a).mono (by simp only[Pf.yV,Pf.v_];omega)|NH _ _ a b=>exact(Qp (a.mono (SI _ _)) (b.mono (TF _ _))).mono (by simp only[Pf.yV,Pf.v_];omega)|all c hs _ a=>
  rcases c with rfl|rfl
  ·exact(QJ hs a).mono (by simp only[Pf.yV,Pf.v_];omega)
  ·exact(Nt hs a).mono (by simp only[Pf.yV,Pf.v_];omega)
 |T3 c d _ a=>
  rcases c with rfl|rfl
  ·exact(Q7 d a).mono (by simp only[Pf.yV,Pf.v_];omega)
  ·exact(PD d a).mono (by simp only[Pf.yV,Pf.v_];omega)
 |ex c d hF _ a=>
  rcases c with rfl|rfl
  ·exact(Py d hF a).mono (by simp only[Pf.yV,Pf.v_];omega)
  ·exact(QG d hF a).mono (by simp only[Pf.yV,Pf.v_];omega)
 |Uc c _ _ a b=>
  rcases c with rfl|rfl
  ·exact(M3 (a.mono (SI _ _)) (b.mono (TF _ _))).mono (by simp only[Pf.yV,Pf.v_];omega)
  ·exact(M8 (a.mono (SI _ _)) (b.mono (TF _ _))).mono (by simp only[Pf.yV,Pf.v_];omega)
 |ind c d hF _ _ a b=>
  rcases c with rfl|rfl
  ·exact(Og d hF (a.mono (SI _ _)) (b.mono (TF _ _))).mono (by simp only[Pf.yV,Pf.v_];omega)
  ·exact(Oy d hF (a.mono (SI _ _)) (b.mono (TF _ _))).mono (by simp only[Pf.yV,Pf.v_];omega)
 |refl d=>exact Qk d|subst hF _ _ a b=>exact(Oj hF (a.mono (SI _ _)) (b.mono (TF _ _))).mono (by simp only[Pf.yV,Pf.v_];omega)|choice _ a=>exact(Mr a).mono (by simp only[Pf.yV,Pf.v_];omega)
mutual
def Pf.ab':Pf->Nat
 |.mk _ _ _ ts fs l=>1+eE Tm.ab' ts+eE Fm.ab' fs+Pf.oq l
def Pf.oq:List Pf->Nat
 |[]=>0|p::l=>p.ab'+Pf.oq l
end
def Pf.r8:∀l:List Pf,Pf.oq l=eE Pf.ab' l
 |[]=>by rw[Pf.oq];rfl|p::l=>by rw[Pf.oq,Pf.r8 l];rfl
theorem Pf.ef(k i:Int)(s:Ty)(ts:List Tm)(fs:List Fm)(l:List Pf):(Pf.mk k i s ts fs l).ab'=1+eE Tm.ab' ts+eE Fm.ab' fs+eE Pf.ab' l:=by rw[Pf.ab',Pf.r8]
mutual
def Pf.wt:Pf->Nat
 |.mk _ _ s ts fs l=>1+s.ab'+eE Tm.wt ts+eE Fm.wt fs+Pf.NS l
def Pf.NS:List Pf->Nat
 |[]=>0|p::l=>p.wt+Pf.NS l
end
def Pf.Dj:∀l:List Pf,Pf.NS l=eE Pf.wt l
 |[]=>by rw[Pf.NS];rfl|p::l=>by rw[Pf.NS,Pf.Dj l];rfl
theorem Pf.fP(k i:Int)(s:Ty)(ts:List Tm)(fs:List Fm)(l:List Pf):(Pf.mk k i s ts fs l).wt=1+s.ab'+eE Tm.wt ts+eE Fm.wt fs+eE Pf.wt l:=by rw[Pf.wt,Pf.Dj]
def Pf.iS(p:Pf):1<=p.wt:=by cases p;rw[Pf.fP];omega
def Pf.ind{p:Pf->Prop}(h:∀k i s ts fs l,(∀t∈l,p t)->p (.mk k i s ts fs l))(t:Pf):p t:=by
 match t with
 |.mk k i s ts fs l=>exact h k i s ts fs l λx a=>Pf.ind h x
termination_by SizeOf.sizeOf t
decreasing_by
 have:=S3 a;simp only[Pf.mk.sizeOf_spec];omega
def Pf.iI(p:Pf):p.ab'<=p.wt:=by
 induction p using Pf.ind with
 |h k i s ts fs l a=>
  rw[Pf.ef,Pf.fP];have b:=kR (l:=ts) (λx _=>Tm.iI x);have c:=kR (l:=fs) (λx _=>Fm.iI x);have d:=kR (l:=l) a;omega
def Pf.sig(k:Int):Option (Bool×Bool×Nat×Nat×Nat):=
 if k=1\/k=2 then some (true,false,0,0,0)
 else if k=3\/k=7\/k=11\/k=15 then some (false,false,0,0,2)
 else if k=4\/k=5\/k=20 then some (false,false,0,0,1)
 else if k=6 then some (false,false,0,1,1)
 else if k=8\/k=12 then some (false,true,0,0,1)
 else if k=9\/k=13 then some (false,false,1,0,1)
 else if k=10\/k=14 then some (false,false,1,1,1)
 else if k=16\/k=17 then some (false,false,1,1,2)
 else if k=18 then some (false,false,1,0,0)
 else if k=19 then some (false,false,0,1,2)
 else none
def Pf.node(k i:Int)(s:Ty)(d nf e:Nat):Bool:=
 match Pf.sig k with
 |none=>false|some (f,ty,a,b,c)=>decide (d=a)&&decide (nf=b)&&decide (e=c)&&decide (0<=i)&&(f||decide (i=0))&&(if ty=true then decide (s.err=0)else s.rQ)
mutual
def Pf.ok:Pf->Bool
 |.mk k i s ts fs l=>Pf.node k i s ts.length fs.length l.length&&ts.all Tm.ok&&fs.all Fm.ok&&Pf.Jc l
def Pf.Jc:List Pf->Bool
 |[]=>true|p::l=>p.ok&&Pf.Jc l
end
def Pf.zs:∀l:List Pf,Pf.Jc l=l.all Pf.ok
 |[]=>by rw[Pf.Jc];rfl|p::l=>by rw[Pf.Jc,Pf.zs l];rfl
theorem Pf.h_(k i:Int)(s:Ty)(ts:List Tm)(fs:List Fm)(l:List Pf):(Pf.mk k i s ts fs l).ok=(Pf.node k i s ts.length fs.length l.length&&ts.all Tm.ok&&fs.all Fm.ok&&l.all Pf.ok):=by rw[Pf.ok,Pf.zs]
def QD(t:Tm):Bool:=decide (t.ab'<=4096)
def QU(f:Fm):Bool:=decide (f.ab'<=4096)
mutual
def Pf.small:Pf->Bool
 |.mk _ _ _ ts fs l=>ts.all QD&&fs.all QU&&Pf.Gg l
def Pf.Gg:List Pf->Bool
 |[]=>true|p::l=>p.small&&Pf.Gg l
end
def Pf.JH:∀l:List Pf,Pf.Gg l=l.all Pf.small
 |[]=>by rw[Pf.Gg];rfl|p::l=>by rw[Pf.Gg,Pf.JH l];rfl
def Pf.zK(k i:Int)(s:Ty)(ts:List Tm)(fs:List Fm)(l:List Pf):(Pf.mk k i s ts fs l).small=(ts.all QD&&fs.all QU&&l.all Pf.small):=by rw[Pf.small,Pf.JH]
def Pf.err(p:Pf):Int:=if p.ok=true then(if p.small=true/\p.ab'<=16384 then 0 else 4)else 2
def Rq{k:Int}(h:Pf.sig k≠none):k=1\/k=2\/k=3\/k=4\/k=5\/k=6\/k=7\/k=8\/k=9\/k=10\/k=11\/k=12\/k=13\/k=14\/k=15\/k=16\/k=17\/k=18\/k=19\/k=20:=by
 refine ZO λhn=>h ?_;unfold Pf.sig;simp only[not_or] at hn;rw[ea (by omega),ea (by omega),ea (by omega),ea (by omega),ea (by omega),ea (by omega),ea (by omega),ea (by omega),ea (by omega),ea (by omega)]
def LR{k:Int}(h:k<1\/20<k):Pf.sig k=none:=by
 unfold Pf.sig;rw[ea (by omega),ea (by omega),ea (by omega),ea (by omega),ea (by omega),ea (by omega),ea (by omega),ea (by omega),ea (by omega),ea (by omega)]
def PW(k:Int):(Pf.sig k=none/\∃r,qa k=some (r,false))\/∃d ty a b c r,Pf.sig k=some (d,ty,a,b,c)/\qa k=some (r,true)/\r.aca=d/\r.typed=ty/\r.ej=((a:Nat):Int)/\r.fj=((b:Nat):Int)/\r.ab_=((c:Nat):Int):=by
 by_cases h:k<1\/20<k
 ·refine .inl ⟨LR h,?_⟩;unfold qa;rw[ee (by rw[la,pO,mE,iU];omega)];exact⟨_,rfl⟩
 ·have e:k=1\/k=2\/k=3\/k=4\/k=5\/k=6\/k=7\/k=8\/k=9\/k=10\/k=11\/k=12\/k=13\/k=14\/k=15\/k=16\/k=17\/k=18\/k=19\/k=20:=by omega
  refine .inr ?_;rcases e with rfl|rfl|rfl|rfl|rfl|rfl|rfl|rfl|rfl|rfl|rfl|rfl|rfl|rfl|rfl|rfl|rfl|rfl|rfl|rfl<;>exact⟨_,_,_,_,_,_,rfl,rfl,rfl,rfl,rfl,rfl,rfl⟩
def Of(k:Int):(Pf.sig k=none/\∃r,ql k=some (r,false))\/∃d ty a b c r,Pf.sig k=some (d,ty,a,b,c)/\ql k=some (r,true)/\r.aca=d/\r.pN=ty/\r.ej=((a:Nat):Int)/\r.fj=((b:Nat):Int)/\r.ab_=((c:Nat):Int):=by
 by_cases h:k<1\/20<k
 ·refine .inl ⟨LR h,?_⟩;unfold ql;simp only[la,pO,gw];rw[ea (by omega),ea (by omega),ea (by omega),ea (by omega),ea (by omega),ea (by omega),ea (by omega),ea (by omega),ea (by omega),ea (by omega),ea (by omega)];exact⟨_,rfl⟩
 ·have e:k=1\/k=2\/k=3\/k=4\/k=5\/k=6\/k=7\/k=8\/k=9\/k=10\/k=11\/k=12\/k=13\/k=14\/k=15\/k=16\/k=17\/k=18\/k=19\/k=20:=by omega
  refine .inr ?_;rcases e with rfl|rfl|rfl|rfl|rfl|rfl|rfl|rfl|rfl|rfl|rfl|rfl|rfl|rfl|rfl|rfl|rfl|rfl|rfl|rfl<;>exact⟨_,_,_,_,_,_,rfl,rfl,rfl,rfl,rfl,rfl,rfl⟩
def ka{k i:Int}{s:Ty}{f nf g:Nat}(h:Pf.node k i s f nf g=true){j ty:Bool}{a b c:Nat}(hs:Pf.sig k=some (j,ty,a,b,c)):(f:Int)=a/\(nf:Int)=b/\(g:Int)=c/\0<=i/\(j=false->i=0)/\(ty=true->s.err=0)/\(ty=false->s=.mk 0 []):=by
 unfold Pf.node at h;rw[hs] at h;simp only[gI,nq,pO] at h;obtain⟨⟨⟨⟨⟨o,p⟩,q⟩,l⟩,m⟩,d⟩:=h;refine⟨by omega,by omega,by omega,l,λn=>m.resolve_left (by simp[n]),λe=>?_,λe=>?_⟩
 ·rw[ee e] at d;simpa using d
 ·rw[ea (by simp[e])] at d;exact(Ty.mQ s).1 d
def Pf.w(p:Pf):p.ok=true->p.small=true->y7 p:=by
 induction p using Pf.ind with
 |h k i s ts fs l y=>
  intro v hs;rw[Pf.h_] at v;rw[Pf.zK] at hs;simp only[gI,kF] at v hs;obtain⟨⟨⟨m,z⟩,A⟩,B⟩:=v;obtain⟨⟨s1,s2⟩,C⟩:=hs;have r:∀t∈ts,t.err=0:=λt q=>Tm.tA (z t q) (by have:=s1 t q;simpa[QD] using this)
  have u:∀f∈fs,f.err=0:=λf q=>by
   have:=s2 f q;simp only[QU,nq] at this;unfold Fm.err;rw[ee (A f q),ea (by omega)]
  have j:∀x∈l,y7 x:=λx q=>y x q (B x q) (C x q);clear y z A B s1 s2 C;have D:=Rq (k:=k) (λhn=>by unfold Pf.node at m;rw[hn] at m;cases m);rcases D with rfl|rfl|rfl|rfl|rfl|rfl|rfl|rfl|rfl|rfl|rfl|rfl|rfl|rfl|rfl|rfl|rfl|rfl|rfl|rfl
  ·obtain⟨q1,c,d,n,e,o,g⟩:=ka m rfl;obtain rfl:=hD.1 q1;obtain rfl:=hD.1 c;obtain rfl:=hD.1 d;obtain rfl:=g rfl;exact .hyp n
  ·obtain⟨q1,c,d,n,e,o,g⟩:=ka m rfl;obtain rfl:=hD.1 q1;obtain rfl:=hD.1 c;obtain rfl:=hD.1 d;obtain rfl:=g rfl;exact .HU n
  ·obtain⟨q1,c,d,n,e,o,g⟩:=ka m rfl;obtain rfl:=hD.1 q1;obtain rfl:=hD.1 c;obtain⟨a,b,rfl⟩:=qP d;obtain rfl:=e rfl;obtain rfl:=g rfl;exact .NM (j a (by simp)) (j b (by simp))
  ·obtain⟨q1,c,d,n,e,o,g⟩:=ka m rfl;obtain rfl:=hD.1 q1;obtain rfl:=hD.1 c;obtain⟨a,rfl⟩:=jS d;obtain rfl:=e rfl;obtain rfl:=g rfl;exact .and (.inl rfl) (j a (by simp))
  ·obtain⟨q1,c,d,n,e,o,g⟩:=ka m rfl;obtain rfl:=hD.1 q1;obtain rfl:=hD.1 c;obtain⟨a,rfl⟩:=jS d;obtain rfl:=e rfl;obtain rfl:=g rfl;exact .and (.inr rfl) (j a (by simp))
  ·obtain⟨q1,c,d,n,e,o,g⟩:=ka m rfl;obtain rfl:=hD.1 q1;obtain⟨F,rfl⟩:=jS c;obtain⟨a,rfl⟩:=jS d;obtain rfl:=e rfl;obtain rfl:=g rfl;exact .Ou (u F (by simp)) (j a (by simp))
  ·obtain⟨q1,c,d,n,e,o,g⟩:=ka m rfl;obtain rfl:=hD.1 q1;obtain rfl:=hD.1 c;obtain⟨a,b,rfl⟩:=qP d;obtain rfl:=e rfl;obtain rfl:=g rfl;exact .NH (j a (by simp)) (j b (by simp))
  ·obtain⟨q1,c,d,n,e,o,g⟩:=ka m rfl;obtain rfl:=hD.1 q1;obtain rfl:=hD.1 c;obtain⟨a,rfl⟩:=jS d;obtain rfl:=e rfl;exact .all (.inl rfl) (o rfl) (j a (by simp))
  ·obtain⟨q1,c,d,n,e,o,g⟩:=ka m rfl;obtain⟨t,rfl⟩:=jS q1;obtain rfl:=hD.1 c;obtain⟨a,rfl⟩:=jS d;obtain rfl:=e rfl;obtain rfl:=g rfl;exact .T3 (.inl rfl) (r t (by simp)) (j a (by simp))
  ·obtain⟨q1,c,d,n,e,o,g⟩:=ka m rfl;obtain⟨t,rfl⟩:=jS q1;obtain⟨F,rfl⟩:=jS c;obtain⟨a,rfl⟩:=jS d;obtain rfl:=e rfl;obtain rfl:=g rfl;exact .ex (.inl rfl) (r t (by simp)) (u F (by simp)) (j a (by simp))
  ·obtain⟨q1,c,d,n,e,o,g⟩:=ka m rfl;obtain rfl:=hD.1 q1;obtain rfl:=hD.1 c;obtain⟨a,b,rfl⟩:=qP d;obtain rfl:=e rfl;obtain rfl:=g rfl;exact .Uc (.inl rfl) (j a (by simp)) (j b (by simp))
  ·obtain⟨q1,c,d,n,e,o,g⟩:=ka m rfl;obtain rfl:=hD.1 q1;obtain rfl:=hD.1 c;obtain⟨a,rfl⟩:=jS d;obtain rfl:=e rfl;exact .all (.inr rfl) (o rfl) (j a (by simp))
  ·obtain⟨q1,c,d,n,e,o,g⟩:=ka m rfl;obtain⟨t,rfl⟩:=jS q1;obtain rfl:=hD.1 c;obtain⟨a,rfl⟩:=jS d;obtain rfl:=e rfl;obtain rfl:=g rfl;exact .T3 (.inr rfl) (r t (by simp)) (j a (by simp))
  ·obtain⟨q1,c,d,n,e,o,g⟩:=ka m rfl;obtain⟨t,rfl⟩:=jS q1;obtain⟨F,rfl⟩:=jS c;obtain⟨a,rfl⟩:=jS d;obtain rfl:=e rfl;obtain rfl:=g rfl;exact .ex (.inr rfl) (r t (by simp)) (u F (by simp)) (j a (by simp))
  ·obtain⟨q1,c,d,n,e,o,g⟩:=ka m rfl;obtain rfl:=hD.1 q1;obtain rfl:=hD.1 c;obtain⟨a,b,rfl⟩:=qP d;obtain rfl:=e rfl;obtain rfl:=g rfl;exact .Uc (.inr rfl) (j a (by simp)) (j b (by simp))
  ·obtain⟨q1,c,d,n,e,o,g⟩:=ka m rfl;obtain⟨t,rfl⟩:=jS q1;obtain⟨F,rfl⟩:=jS c;obtain⟨a,b,rfl⟩:=qP d;obtain rfl:=e rfl;obtain rfl:=g rfl;exact .ind (.inl rfl) (r t (by simp)) (u F (by simp)) (j a (by simp)) (j b (by simp))
  ·obtain⟨q1,c,d,n,e,o,g⟩:=ka m rfl;obtain⟨t,rfl⟩:=jS q1;obtain⟨F,rfl⟩:=jS c;obtain⟨a,b,rfl⟩:=qP d;obtain rfl:=e rfl;obtain rfl:=g rfl;exact .ind (.inr rfl) (r t (by simp)) (u F (by simp)) (j a (by simp)) (j b (by simp))
  ·obtain⟨q1,c,d,n,e,o,g⟩:=ka m rfl;obtain⟨t,rfl⟩:=jS q1;obtain rfl:=hD.1 c;obtain rfl:=hD.1 d;obtain rfl:=e rfl;obtain rfl:=g rfl;exact .refl (r t (by simp))
  ·obtain⟨q1,c,d,n,e,o,g⟩:=ka m rfl;obtain rfl:=hD.1 q1;obtain⟨F,rfl⟩:=jS c;obtain⟨a,b,rfl⟩:=qP d;obtain rfl:=e rfl;obtain rfl:=g rfl;exact .subst (u F (by simp)) (j a (by simp)) (j b (by simp))
  ·obtain⟨q1,c,d,n,e,o,g⟩:=ka m rfl;obtain rfl:=hD.1 q1;obtain rfl:=hD.1 c;obtain⟨a,rfl⟩:=jS d;obtain rfl:=e rfl;obtain rfl:=g rfl;exact .choice (j a (by simp))
end Go.hI
