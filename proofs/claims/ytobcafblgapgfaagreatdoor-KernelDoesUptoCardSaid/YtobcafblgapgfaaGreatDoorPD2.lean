/- Part of the proof of KernelDoes: plain facts. -/
import Derived.Test.YtobcafblgapgfaaGreatDoorPD1
set_option linter.all false
namespace Go.fB
open Go
def zg(g:List Ty)(s:Ty):g.map sg++[sg s]=(g++[s]).map sg:=aa4
def Dk:∀(n:Nat) (t:Tm),t.acU<=n->t.ok=true->∀g,jd g->g.length+t.acU<=1000000->dz n (g.map sg) t=some (Hb (t.ty g)):=by
 intro n
 induction n with
 |zero=>intro t h;have:=t.dp;omega
 |succ n l=>
  intro t hn B
  have one:∀{a:Tm} {g:List Ty} {ts:List Ty},a.ok=true->jd g->Tm.uk [a] g=.inl ts->∃x,ts=[x]/\x.err=0:=by
   intro a g ts j hg h;rcases Cj j hg with⟨e,_,o⟩|⟨x,o,f⟩<;>rw[h] at o<;>cases o;exact⟨x,rfl,f⟩
  have two:∀{a b:Tm} {g:List Ty} {ts:List Ty},a.ok=true->b.ok=true->jd g->Tm.uk [a,b] g=.inl ts->∃x y,ts=[x,y]/\x.err=0/\y.err=0:=by
   intro a b g ts j k hg h;rcases BN j k hg with⟨e,_,o⟩|⟨x,y,o,f,hy⟩<;>rw[h] at o<;>cases o;exact⟨x,y,rfl,f,hy⟩
  have three:∀{a b c:Tm} {g:List Ty} {ts:List Ty},a.ok=true->b.ok=true->c.ok=true->jd g->Tm.uk [a,b,c] g=.inl ts->∃x y z,ts=[x,y,z]/\x.err=0/\y.err=0/\z.err=0:=by
   intro a b c g ts j k m hg h;rcases AY j k m hg with⟨e,_,o⟩|⟨x,y,z,o,f,hy,u⟩<;>rw[h] at o<;>cases o;exact⟨x,y,z,rfl,f,hy,u⟩
  refine Tm.ow (p:=λt=>t.acU<=n+1->∀g,jd g->g.length+t.acU<=1000000->dz (n+1) (g.map sg) t=some (Hb (t.ty g))) ?_ ?_ ?_ ?_ ?_ ?_ ?_ ?_ ?_ ?_ ?_ ?_ ?_ t B hn
  ·intro i _ g hg k;rw[Tm.cN] at k;rw[dz,cO abq,Tm.mD,cO rfl];simp only[Tm.eP,ej,AP]
   by_cases hi:(i:Int)<(g.length:Int)
   ·rw[cK (by simp only[ib];omega),cO hi];rw[ed (a:=(g.length:Int)) VW VW,ed VW VW]
    have v:g.length-1-i<g.length:=VW
    have:de (g.map sg) ((g.length:Int)-1-(i:Int))=some (sg g[g.length-1-i]):=by
     unfold de;rw[cO VW,show((g.length:Int)-1-(i:Int)).toNat=g.length-1-i by omega,tM,oO v];rfl
    rw[this];simp only[cH,AN];rw[Nu,oO v];exact congrArg some (py _).symm
   ·rw[cO (by simp only[ib];omega),cK hi,kO aaK];rfl
  ·intro s b hs k hn g hg d;rw[Tm.cN] at hn d;simp only[c_] at hn d;rw[dz,cK aa4,cO abq,Tm.mD,cK aaK,cO rfl,Tm.Y9];simp only[Tm.dR,Tm.dd,km hs,dv,iB,cH,fx];rw[dS aa_,cX,zg,l b VW k (g++[s]) (hg.app hs) aa_];have A:=λh=>(qk _ b (gu _) k (g++[s]) (hg.app hs) (b.ty (g++[s])).1 (yi h)).2;generalize b.ty (g++[s])=q at A;obtain⟨r,e⟩:=q;simp only[Mr]
   by_cases w:e=0
   ·subst w;have C:r.err=0:=A rfl;have h1:=ec hs;have D:=ec C;rw[py,cJ,cK aaK,cK aa4,zy 4 VW VW]
    by_cases m:64<1+s.acU+r.acU
    ·rw[cO m,cO m,kO aaK];rfl
    ·rw[cK m,cK m,py];rfl
   ·rw[kO w,cJ,cO (by simpa[dw] using w),cO w,kO w];rfl
  ·intro a b j k hn g hg d;rw[Tm.cN] at hn d;simp only[c_] at hn d;refine kA aaK aaK aa4 (by intro x f;simp at f;rcases f with rfl|rfl<;>first|exact l _ VW j g hg VW|exact l _ VW k g hg VW) (λts h=>?_);obtain⟨x,y,rfl,f,hy⟩:=two j k hg h;exact Rr f hy
  ·intro hn g hg d;exact kA aaK aaK aa4 aa4 (λts h=>by rw[Tm.uk] at h;cases h;exact P8)
  ·intro a j hn g hg d;rw[Tm.cN] at hn d;simp only[c_] at hn d;refine kA aaK aaK aa4 (by intro x f;simp at f;subst f;exact l _ VW j g hg VW) (λts h=>?_);obtain⟨x,rfl,f⟩:=one j hg h;exact P9 f
  ·intro s a b c hs j k m hn g hg d;rw[Tm.cN] at hn d;simp only[c_] at hn d;refine kA aaK aaK aa4 (by intro x f;simp at f;rcases f with rfl|rfl|rfl<;>first|exact l _ VW j g hg VW|exact l _ VW k g hg VW|exact l _ VW m g hg VW) (λts h=>?_);obtain⟨x,y,z,rfl,f,hy,u⟩:=three j k m hg h;exact RW hs f hy u
  ·intro hn g hg d;exact kA aaK aaK aa4 aa4 (λts h=>by rw[Tm.uk] at h;cases h;exact Sc)
  ·intro a b j k hn g hg d;rw[Tm.cN] at hn d;simp only[c_] at hn d;refine kA aaK aaK aa4 (by intro x f;simp at f;rcases f with rfl|rfl<;>first|exact l _ VW j g hg VW|exact l _ VW k g hg VW) (λts h=>?_);obtain⟨x,y,rfl,f,hy⟩:=two j k hg h;exact Pz f hy
  ·intro s a b c hs j k m hn g hg d;rw[Tm.cN] at hn d;simp only[c_] at hn d;refine kA aaK aaK aa4 (by intro x f;simp at f;rcases f with rfl|rfl|rfl<;>first|exact l _ VW j g hg VW|exact l _ VW k g hg VW|exact l _ VW m g hg VW) (λts h=>?_);obtain⟨x,y,z,rfl,f,hy,u⟩:=three j k m hg h;exact Qi hs f hy u
  ·intro a b j k hn g hg d;rw[Tm.cN] at hn d;simp only[c_] at hn d;refine kA aaK aaK aa4 (by intro x f;simp at f;rcases f with rfl|rfl<;>first|exact l _ VW j g hg VW|exact l _ VW k g hg VW) (λts h=>?_);obtain⟨x,y,rfl,f,hy⟩:=two j k hg h;exact O9 f hy
  ·intro a j hn g hg d;rw[Tm.cN] at hn d;simp only[c_] at hn d;refine kA aaK aaK aa4 (by intro x f;simp at f;subst f;exact l _ VW j g hg VW) (λts h=>?_);obtain⟨x,rfl,f⟩:=one j hg h;exact RS f
  ·intro a j hn g hg d;rw[Tm.cN] at hn d;simp only[c_] at hn d;refine kA aaK aaK aa4 (by intro x f;simp at f;subst f;exact l _ VW j g hg VW) (λts h=>?_);obtain⟨x,rfl,f⟩:=one j hg h;exact Rw f
  ·intro hn g hg d;exact kA aaK aaK aa4 aa4 (λts h=>by rw[Tm.uk] at h;cases h;exact PT)
def wA{t:Tm}{g:List Ty}(a:t.ok=true)(hg:jd g)(b:g.length+t.acU<=1000000):dz FU (g.map sg) t=some (Hb (t.ty g)):=
 Dk FU t (by have:=dO;omega) a g hg b
noncomputable def oN (t:Tm) (g:List Ty) (k:Int):Int:=if(t.ty g).2=0/\(t.ty g).1.acS≠k then 7 else(t.ty g).2
def Az{t:Tm}{g:List Ty}(k:Int)(c:t.ok=true)(hg:jd g)(d:g.length+t.acU<=1000000):gG (g.map sg) t k=some (oN t g k):=by
 unfold gG oN;rw[wA c hg d];generalize t.ty g=q;obtain⟨r,e⟩:=q
 by_cases a:e=0
 ·subst a;rw[py,cJ];simp only[c6];rw[cO abq,Ea,cH,Ei]
  by_cases b:r.acS=k
  ·rw[xa b,cK aaK,cK (λh=>h.2 b)]
  ·rw[EY b,cO aaK,cO ⟨trivial,b⟩]
 ·rw[kO a,cJ];simp only[c6];rw[cK (by simpa[dg] using a),cK aaK,cK (λh=>a h.1)]
def xd{t:Tm}{g:List Ty}(a:t.ok=true)(hg:jd g)(b:g.length+t.acU<=1000000):gw (g.map sg) t=some (oN t g 1):=by
 unfold gw;rw[Az 1 a hg b];rfl
mutual
noncomputable def Fm.vn:Fm->List Ty->Int
 |.mk k s ts l,g=>if fK (ts.map λt=>oN t g 1)=0 then Fm.R3 l (if jz k then g++[s] else g)else fK (ts.map λt=>oN t g 1)
noncomputable def Fm.R3:List Fm->List Ty->Int
 |[],_=>0|f::l,g=>if f.vn g=0 then Fm.R3 l g else f.vn g
end
def Fm.Ou(g:List Ty):∀l:List Fm,Fm.R3 l g=fK (l.map λf=>f.vn g)
 |[]=>by rw[Fm.R3];rfl|f::l=>by rw[Fm.R3,Fm.Ou g l];rfl
def Fm.tB(k:Int)(s:Ty)(ts:List Tm)(l:List Fm)(g:List Ty):(Fm.mk k s ts l).vn g=if fK (ts.map λt=>oN t g 1)=0 then fK (l.map λf=>f.vn (if jz k then g++[s] else g))else fK (ts.map λt=>oN t g 1):=by
 rw[Fm.vn,Fm.Ou]
def yO{t:Tm}{g:List Ty}(a:t.ok=true)(hn:t.acU<=4096)(hg:jd g)(b:g.length<=900000):pD g t=some (t.ty g):=by
 unfold pD;have hw:=t.iN a;rw[lL VW]
 have he:t.err=0:=by unfold Tm.err;rw[cO a,cK VW]
 rw[he];simp only[cH];rw[cK aaK,yJ FU t (by have:=dO;omega) a g hg VW];rfl
def IU{t:Tm}{g:List Ty}(f:t.ok=true)(hn:t.acU<=4096)(hg:jd g)(i:g.length<=900000):(cT (pD g t) λd a=>if(dw a 0) then(some (.ret a))else(if(dw d.acS 1) then(some (.ret 7))else(some (.next ()))):Option (eL Unit Int))=
   if oN t g 1≠0 then some (.ret (oN t g 1))else some (.next ()):=by
 rw[yO f hn hg i];unfold oN;generalize t.ty g=q;obtain⟨r,e⟩:=q;simp only[cJ,da]
 by_cases b:e=0
 ·subst b
  by_cases c:r.acS=1
  ·rw[cK aa4,cK (by simp[c]),cK (show¬((0:Int)=0/\r.acS≠1)fromλh=>h.2 c),cK aa4]
  ·rw[cK aa4,cO c,cO (show(0:Int)=0/\r.acS≠1 from⟨rfl,c⟩),cO aaK]
 ·rw[cO b,cK (show¬(e=0/\r.acS≠1)fromλh=>b h.1),cO b]
def sD{e:Int}:(cI (some e) λa=>if(dw a 0) then(some (.ret a))else(some (.next ())):Option (eL Unit Int))=if e≠0 then some (.ret e)else some (.next ()):=by
 rw[cH]
 by_cases h:e=0
 ·subst h;rfl
 ·rw[cO (by simpa[dw] using h),cO h]
def uz{l:List Int}{k:Unit⊕Int->Option Int}(h:k=eG (λ_=>some 0) (λr=>some r)):cI (if fK l=0 then some (.inl ())else some (.inr (fK l))) k=some (fK l):=by
 subst h
 by_cases h:fK l=0
 ·rw[cO h,h];rfl
 ·rw[cK h];rfl
def zh(f:Fm)(v:f.ok=true):∀n,f.acU<=n->∀g,jd g->g.length+f.acU<=900000->f.acU<=4096->mP n g f=some (f.vn g):=by
 refine Fm.ow (p:=λf=>∀n,f.acU<=n->∀g,jd g->g.length+f.acU<=900000->f.acU<=4096->mP n g f=some (f.vn g)) ?_ ?_ ?_ f v
 ·intro a b l u n hn g hg c d;rw[Fm.cN] at hn c d;simp only[c_] at hn c d;obtain⟨n,rfl⟩:∃m,n=m+1:=⟨n-1,VW⟩;rw[mP,Fm.tB];simp only[c6,Fm.fU,Fm.dd,Fm.dn,kX,cH]
  rw[db aa4,cX,ka (λt=>oN t g 1) [a,b] 0 (λj x e=>by
   simp only[j0,ZA,TI] at e;rcases e with rfl|rfl
   ·exact IU l VW hg VW
   ·exact IU u VW hg VW)]
  rw[show jz 1=false from rfl]
  by_cases h:fK ([a,b].map λt=>oN t g 1)=0
  ·rw[cO h,cO h];rfl
  ·rw[cK h,cK h];rfl
 ·intro k a b o l u i q n hn g hg c d;rw[Fm.cN] at hn c d;simp only[c_] at hn c d;obtain⟨n,rfl⟩:∃m,n=m+1:=⟨n-1,VW⟩
  have r:jz k=false:=by rcases o with rfl|rfl<;>rfl
  rw[mP,Fm.tB];simp only[c6,Fm.fU,Fm.dd,Fm.dn,kX,cH,r,V2,fK]
  rw[db aa4,cX,om,cH,cU,cK aaK,cO trivial,db aa4,cX,ka (λf=>f.vn g) [a,b] 0 (λj x e=>by
   simp only[j0,ZA,TI] at e;rcases e with rfl|rfl
   ·rw[i n VW g hg VW VW];exact sD
   ·rw[q n VW g hg VW VW];exact sD)]
  exact uz rfl
 ·intro k s a o hs l i n hn g hg c d;rw[Fm.cN] at hn c d;simp only[c_] at hn c d;obtain⟨n,rfl⟩:∃m,n=m+1:=⟨n-1,VW⟩
  have r:jz k=true:=by rcases o with rfl|rfl|rfl|rfl<;>rfl
  rw[mP,Fm.tB];simp only[c6,Fm.fU,Fm.dd,Fm.dn,Fm.dR,kX,cH,r,V2,fK];rw[db aa4,cX,om,cH,cU];simp only[if_true]
  rw[dS aa_,cX,fx,db aa4,cX,ka (λf=>f.vn (g++[s])) [a] 0 (λj x e=>by
   simp only[j0,ZA,TI] at e;subst e
   rw[i n VW (g++[s]) (hg.app hs) aa_ VW];exact sD)]
  exact uz rfl
def rS{g:List Ty}{s:Ty}(hs:s.err=0)(a:g.length<=900000):e_ (g.map sg) [s]=some ((g++[s]).map sg):=by
 unfold e_ nK;simp only[c6];rw[db aa4,cX,dJ,km hs];simp only[cH];rw[dS aa4,cX];simp only[cH,dW,om,cU,fx,mR];rw[dS aa_,cX,zg]
def D_{t:Tm}{g:List Ty}(b:t.ok=true)(hn:t.acU<=4096)(hg:jd g)(c:g.length<=900000):(cI (gw (g.map sg) t) λa=>if(dw a 0) then(some (.ret a))else(some (.next ())):Option (eL Unit Int))=if oN t g 1≠0 then some (.ret (oN t g 1))else some (.next ()):=by
 rw[xd b hg VW];exact sD
def vB(f:Fm)(A:f.ok=true):∀n,f.acU<=n->∀g,jd g->g.length+f.acU<=900000->f.acU<=4096->dy n (g.map sg) f=some (f.vn g):=by
 refine Fm.ow (p:=λf=>∀n,f.acU<=n->∀g,jd g->g.length+f.acU<=900000->f.acU<=4096->dy n (g.map sg) f=some (f.vn g)) ?_ ?_ ?_ f A
 ·intro a b u y n hn g hg c d;rw[Fm.cN] at hn c d;simp only[c_] at hn c d;obtain⟨n,rfl⟩:∃m,n=m+1:=⟨n-1,VW⟩;rw[dy,Fm.tB];simp only[c6,Fm.fU,Fm.dd]
  rw[cK aa4,cK aa4,cK aa4,db aa4,cX,ka (λt=>oN t g 1) [a,b] 0 (λj x e=>by
   simp only[j0,ZA,TI] at e;rcases e with rfl|rfl
   ·exact D_ u VW hg VW
   ·exact D_ y VW hg VW)]
  rw[uz rfl]
  by_cases h:fK ([a,b].map λt=>oN t g 1)=0
  ·rw[cO h,h];rfl
  ·rw[cK h]
 ·intro k a b l u y o v n hn g hg c d;rw[Fm.cN] at hn c d;simp only[c_] at hn c d;obtain⟨n,rfl⟩:∃m,n=m+1:=⟨n-1,VW⟩
  have w:jz k=false:=by rcases l with rfl|rfl<;>rfl
  have B:eu (dg k 4) true (dg k 5)=false:=by rcases l with rfl|rfl<;>rfl
  have k2:eu (dg k 6) true (dg k 7)=false:=by rcases l with rfl|rfl<;>rfl
  have C:eu (dg k 2) true (dg k 3)=true:=by rcases l with rfl|rfl<;>rfl
  rw[dy,Fm.tB];simp only[c6,Fm.fU,Fm.dd,w,V2,fK];rw[cK (by simp only[Fm.dn,B];decide),cK (by simp only[Fm.dn,k2];decide),cO (by simp only[Fm.dn,C])];simp only[if_true,oZ,kY]
  rw[db aa4,cX,ka (λf=>f.vn g) [a,b] 0 (λj x e=>by
   simp only[j0,ZA,TI] at e;rcases e with rfl|rfl
   ·rw[o n VW g hg VW VW];exact sD
   ·rw[v n VW g hg VW VW];exact sD)]
  exact uz rfl
 ·intro k s a l hs u o n hn g hg c d;rw[Fm.cN] at hn c d;simp only[c_] at hn c d;obtain⟨n,rfl⟩:∃m,n=m+1:=⟨n-1,VW⟩
  have w:jz k=true:=by rcases l with rfl|rfl|rfl|rfl<;>rfl
  rw[dy,Fm.tB];simp only[c6,Fm.fU,Fm.dd,Fm.dR,w,V2,fK,rS hs (show g.length<=900000 by omega),cH,if_true]
  have fin:(fD (dK [a])<|cI (dN (λ(z:Int) (q:Fm)=>(λ(_:Unit)=>
    cI (dy n ((g++[s]).map sg) q) λi=>
    if(dw i 0) then(
    some (.ret i))
    else(some (.next ()))):Int->Fm->(Unit)->(Option (eL (Unit) (Int)))) [a] 0 ()) (eG (λ(_:Unit)=>some 0) (λr=>some r)))=some (fK ([a].map λf=>f.vn (g++[s]))):=by
   rw[db aa4,cX,ka (λf=>f.vn (g++[s])) [a] 0 (λj x e=>by
    simp only[j0,ZA,TI] at e;subst e
    rw[o n VW (g++[s]) (hg.app hs) aa_ VW];exact sD)]
   exact uz rfl
  rcases l with rfl|rfl|rfl|rfl
  ·rw[cO aa4];exact fin
  ·rw[cO aa4];exact fin
  ·rw[cK aa4,cO aa4];exact fin
  ·rw[cK aa4,cO aa4];exact fin
mutual
def Fm.up(f b:Int):Fm->Fm
 |.mk k s ts l=>.mk k s (ts.map (Tm.up f b)) (Fm.TY (f+qB k) b l)
def Fm.TY(f b:Int):List Fm->List Fm
 |[]=>[]|t::l=>t.up f b::Fm.TY f b l
end
def Fm.MP(f b:Int)(l:List Fm):Fm.TY f b l=l.map (Fm.up f b):=by
 induction l with
 |nil=>rfl|cons t l a=>simp[Fm.TY,a]
def Fm.kJ(f b k:Int)(s:Ty)(ts:List Tm)(l:List Fm):(Fm.mk k s ts l).up f b=.mk k s (ts.map (Tm.up f b)) (l.map (Fm.up (f+qB k) b)):=by rw[Fm.up,Fm.MP]
mutual
def Fm.acY(m:Int):Fm->Bool
 |.mk _ _ ts l=>ts.all (Tm.acY m)&&Fm.xj m l
def Fm.xj(m:Int):List Fm->Bool
 |[]=>true|t::l=>t.acY m&&Fm.xj m l
end
def Fm.Df(m:Int)(l:List Fm):Fm.xj m l=l.all (Fm.acY m):=by
 induction l with
 |nil=>rfl|cons t l a=>simp[Fm.xj,a]
theorem Fm.er(m k:Int)(s:Ty)(ts:List Tm)(l:List Fm):(Fm.mk k s ts l).acY m=(ts.all (Tm.acY m)&&l.all (Fm.acY m)):=by rw[Fm.acY,Fm.Df]
mutual
def Fm.ac0(a:Int):Fm->Nat
 |.mk k _ ts l=>c_ (Tm.ac0 a) ts+Fm.xK (a+qB k) l
def Fm.xK(a:Int):List Fm->Nat
 |[]=>0|t::l=>t.ac0 a+Fm.xK a l
end
def Fm.Dd(a:Int)(l:List Fm):Fm.xK a l=c_ (Fm.ac0 a) l:=by
 induction l with
 |nil=>rfl|cons t l b=>simp[Fm.xK,c_,b]
def Fm.fu(a k:Int)(s:Ty)(ts:List Tm)(l:List Fm):(Fm.mk k s ts l).ac0 a=c_ (Tm.ac0 a) ts+c_ (Fm.ac0 (a+qB k)) l:=by rw[Fm.ac0,Fm.Dd]
mutual
def Fm.nj:Int->Fm->Tm->Fm
 |n,.mk k ty ts l,s=>.mk k ty (ts.map λx=>Tm.nj n x s) (Fm.J_ (n+qB k) l s)
def Fm.J_:Int->List Fm->Tm->List Fm
 |_,[],_=>[]|n,t::l,s=>Fm.nj n t s::Fm.J_ n l s
end
def Fm.Kn(n:Int)(s:Tm)(l:List Fm):Fm.J_ n l s=l.map (λx=>Fm.nj n x s):=by
 induction l with
 |nil=>rfl|cons t l a=>simp[Fm.J_,a]
def Fm.nC(n:Int)(s:Tm)(k:Int)(ty:Ty)(ts:List Tm)(l:List Fm):Fm.nj n (Fm.mk k ty ts l) s=.mk k ty (ts.map λx=>Tm.nj n x s) (l.map λx=>Fm.nj (n+qB k) x s):=by rw[Fm.nj,Fm.Kn]
def Fm.gW(t:Fm):∀a,t.ac0 a<=t.acU:=by
 induction t using Fm.ind with
 |h k s ts l b=>
  intro a;rw[Fm.fu,Fm.cN];have:=jK (f:=Fm.ac0 (a+qB k)) (g:=Fm.acU) (l:=l) λx c=>b x c _;have:=jK (f:=Tm.ac0 a) (g:=Tm.acU) (l:=ts) λx _=>x.gW _;omega
theorem Fm.qt(t:Fm):∀f b,(t.up f b).acU=t.acU:=by
 induction t using Fm.ind with
 |h k s ts l a=>
  intro f b;rw[Fm.kJ,Fm.cN,Fm.cN,pL,pL,qV λx c=>a x c _ _,qV λx _=>Tm.qt x f b]
theorem Fm.Gv(t:Fm):∀f b,(t.up f b).wt=t.wt:=by
 induction t using Fm.ind with
 |h k s ts l a=>
  intro f b;rw[Fm.kJ,Fm.ea,Fm.ea,pL,pL,qV λx c=>a x c _ _,qV λx _=>Tm.Gv x f b]
theorem Fm.IB(t:Fm):∀f b,0<=f->0<=b->(t.up f b).ok=t.ok:=by
 induction t using Fm.ind with
 |h k s ts l c=>
  intro f b d a;have:=B5 k;rw[Fm.kJ,Fm.fV,Fm.fV,AP,AP,vS λx e=>c x e (f+qB k) b VW a,vS λx _=>Tm.IB x f b d a]
def Lx{α:Type}{a b c:α->Nat}{m:Nat}{l:List α}(h:∀x∈l,a x+b x=c x+b x*m):c_ a l+c_ b l=c_ c l+c_ b l*m:=by
 induction l with
 |nil=>simp[c_]|cons y l d=>
  have h1:=h y aa4;have f:=d λx e=>h x aa8;simp only[c_,xu];omega
def Fm.q_(s:Tm)(t:Fm):∀n,t.ok=true->(Fm.nj n t s).acU+t.ac0 n=t.acU+t.ac0 n*s.acU:=by
 induction t using Fm.ind with
 |h k ty ts l f=>
  intro n d;rw[Fm.fV] at d;simp only[ft,j7] at d;rw[Fm.nC,Fm.fu,Fm.cN,Fm.cN,pL,pL,xu];have h1:=Lx (l:=ts) (a:=λx=>(Tm.nj n x s).acU) (b:=Tm.ac0 n) (c:=Tm.acU) (m:=s.acU) λx e=>Tm.q_ s x n (d.1.2 x e);have g:=Lx (l:=l) (a:=λx=>(Fm.nj (n+qB k) x s).acU) (b:=Fm.ac0 (n+qB k)) (c:=Fm.acU) (m:=s.acU) λx e=>f x e _ (d.2 x e);omega
def Bu{t:Tm}(m:Int)(h:t.acU<=1000000000):ky FU t m=some (t.acY m):=zb FU t m (by rw[dO];exact h) h
def FA:∀(n:Nat) (t:Fm) (m:Int),t.acU<=n->t.acU<=1000000000->pM n t m=some (t.acY m):=by
 intro n
 induction n with
 |zero=>intro t m h;have:=t.dp;omega
 |succ n c=>
  intro t m h d;cases t with
  |mk k s ts l=>
   rw[Fm.cN] at h d;have g:=Fm.ek l;have e:=Tm.ek ts
   have f:dN (ρ:=Bool) (λ(_:Int) (x:Tm) (_:Unit)=>cI (ky FU x m) λa=>if a then some (eL.next ())else some (eL.ret false)) ts 0 ()=if ts.all (Tm.acY m) then some (.inl ())else some (.inr false):=by
    refine qI (Tm.acY m) _ ts 0 ?_;intro j x b;have:=dh Tm.acU b;rw[Bu m VW];rfl
   have k2:dN (ρ:=Bool) (λ(_:Int) (x:Fm) (_:Unit)=>cI (pM n x m) λa=>if a then some (eL.next ())else some (eL.ret false)) l 0 ()=if l.all (Fm.acY m) then some (.inl ())else some (.inr false):=by
    refine qI (Fm.acY m) _ l 0 ?_;intro j x b;have:=dh Fm.acU b;rw[c x m VW VW];rfl
   rw[pM];simp only[Fm.dd,Fm.fU,c6,db (l:=l) VW,db (l:=ts) VW,cX,f,k2,Fm.er];cases h1:ts.all (Tm.acY m)<;>cases i:l.all (Fm.acY m)<;>simp
def sX:∀(n:Nat) (t:Fm) (f b:Int),t.acU<=n->t.acU<=1000000000->0<=f->f+t.acU<=10000000000->0<=b->b<=10000000000->t.acY 1000000000000=true->fH n t f b=some (t.up f b):=by
 intro n
 induction n with
 |zero=>intro t f b h;have:=t.dp;omega
 |succ n o=>
  intro t f b h d p e i a hi;cases t with
  |mk k s ts l=>
   rw[Fm.cN] at h d e;rw[Fm.er] at hi;simp only[ft,j7] at hi;have r:=Fm.ek l;have q:=Tm.ek ts;have u:=B5 k;rw[fH];simp only[Fm.dd,Fm.fU,Fm.dn,Fm.dR,c6,db (l:=l) VW,db (l:=ts) VW,cX];rw[hS (Tm.up f b) ts 0 [] aa_]
   ·simp only[cH,cU];rw[hS (Fm.up (f+qB k) b) l 0 [] aa_]
    ·simp[Fm.kJ]
    ·intro j x v c g;have:=dh Fm.acU c;rw[o_];simp only[cH,Fm.dn];rw[dI VW VW,o x (f+qB k) b VW VW VW VW i a (hi.2 x c)];simp[dS (l:=v) (m:=[x.up (f+qB k) b]) (by simpa using g)]
   ·intro j x v c g;have:=dh Tm.acU c;rw[y0 FU x f b (by rw[dO];omega) VW p VW i a (hi.1 x c)];simp[dS (l:=v) (m:=[x.up f b]) (by simpa using g)]
def GZ:∀(n:Nat) (t:Fm) (a:Int),t.acU<=n->t.acU<=1000000000->0<=a->a+t.acU<=10000000000->pe n t a=some (t.ac0 a:Int):=by
 intro n
 induction n with
 |zero=>intro t a h;have:=t.dp;omega
 |succ n g=>
  intro t a h c i d;cases t with
  |mk k s ts l=>
   rw[Fm.cN] at h c d;have q:=Fm.ek l;have m:=Tm.ek ts;have r:=B5 k;have o:c_ (Fm.ac0 (a+qB k)) l<=c_ Fm.acU l:=jK λx _=>x.gW _;have f:c_ (Tm.ac0 a) ts<=c_ Tm.acU ts:=jK λx _=>x.gW _;rw[pe];simp only[Fm.dd,Fm.fU,Fm.dn,c6,db (l:=l) VW,db (l:=ts) VW,cX]
   have p:=pG (ρ:=Int) (F:=λ(_:Int) (x:Tm) (v:Int)=>cI (mv FU x a) λy=>some (eL.next (dF .i64 v y))) (Tm.ac0 a) ts 0 0 VW (by
    intro j x v e;have:=dh Tm.acU e;rw[yK FU x a (by rw[dO];omega) VW i VW]
    rfl)
   have k2:=pG (ρ:=Int) (F:=λ(_:Int) (x:Fm) (v:Int)=>cI (mJ (Fm.mk k s ts l)) λb=>cI (pe n x (dF .i64 a b)) λy=>some (eL.next (dF .i64 v y))) (Fm.ac0 (a+qB k)) l 0 (0+c_ (Tm.ac0 a) ts) VW (by
    intro j x v e;have:=dh Fm.acU e;rw[o_];simp only[cH,Fm.dn];rw[dI VW VW,g x _ VW VW VW VW]
    rfl)
   rw[show(0:Int)=((0:Nat):Int)from rfl,p];simp only[cH,cU];rw[k2];simp[Fm.fu]
def Ml:∀(n:Nat) (t:Fm) (a b:Int) (s:Tm),t.acU<=n->t.acU<=1000000000->0<=a->0<=b->a+b+t.acU<=5000000000->t.acY 1000000000000=true->t.ok=true->s.acU<=1000000000->s.acY 1000000000000=true->wX n t a b s=some (Fm.nj (a+b) t s):=by
 intro n
 induction n with
 |zero=>intro t a b s h;have:=t.dp;omega
 |succ n p=>
  intro t a b s h f o q g hi c hs e;cases t with
  |mk k ty ts l=>
   rw[Fm.cN] at h f g;rw[Fm.er] at hi;rw[Fm.fV] at c;simp only[ft,j7] at hi c;have u:=Fm.ek l;have r:=Tm.ek ts;have w:=B5 k;rw[wX];simp only[Fm.dd,Fm.fU,Fm.dn,Fm.dR,c6,db (l:=l) VW,db (l:=ts) VW,cX];rw[hS (λx=>Tm.nj (a+b) x s) ts 0 [] aa_]
   ·simp only[cH,cU];rw[hS (λx=>Fm.nj (a+b+qB k) x s) l 0 [] aa_]
    ·simp[Fm.nC]
    ·intro j x v d i;have:=dh Fm.acU d;rw[o_];simp only[cH,Fm.dn];rw[dI VW VW,p x a (b+qB k) s VW VW o VW VW (hi.2 x d) (c.2 x d) hs e];rw[show a+(b+qB k)=a+b+qB k by omega];simp[dS (l:=v) (m:=[Fm.nj (a+b+qB k) x s]) (by simpa using i)]
   ·intro j x v d i;have:=dh Tm.acU d;rw[Eo FU x a b s (by rw[dO];omega) VW o q VW (hi.1 x d) (c.1.2 x d) hs e];simp[dS (l:=v) (m:=[Tm.nj (a+b) x s]) (by simpa using i)]
def Fm.lT(t:Fm):∀{m n:Int},m<=n->t.acY m=true->t.acY n=true:=by
 induction t using Fm.ind with
 |h k s ts l c=>
  intro m n a h;rw[Fm.er] at*;simp only[ft,j7] at*;exact⟨λx b=>Tm.lT x a (h.1 x b),λx b=>c x b a (h.2 x b)⟩
def j1.acY{g:List Ty}{f:Fm}(h:j1 g f):∀m:Int,((g.length+f.acU:Nat):Int)<=m->f.acY m=true:=by
 induction h with
 |eq h1 c=>
  intro m hm;simp only[Fm.cN,c_] at hm;simp only[Fm.er,AX,Nn,HG,ft];exact⟨h1.acY m VW,c.acY m VW⟩
 |two _ _ _ a b=>
  intro m hm;simp only[Fm.cN,c_] at hm;simp only[Fm.er,AX,Nn,HG,ft,Ai];exact⟨a m VW,b m VW⟩
 |q _ _ _ d=>
  intro m hm;simp only[Fm.cN,c_] at hm;simp only[Fm.er,AX,Nn,HG,Ai];exact d m aa_
def Tm.HV(φ:Int->Int->Tm)(b:Int):Tm->Tm
 |.mk k i s l=>if k=1 then φ i b else .mk k i s (l.attach.map λx=>Tm.HV φ (b+eU k) x.1)
decreasing_by
 have:=Wz x.2;simp only[Tm.mk.sizeOf_spec];omega
def Tm.yx(φ:Int->Int->Tm)(b k i:Int)(s:Ty)(l:List Tm):(Tm.mk k i s l).HV φ b=if k=1 then φ i b else .mk k i s (l.map (Tm.HV φ (b+eU k))):=by
 rw[Tm.HV]
 congr 2
 exact Na
def wC(k b:Int)(h1:-1000000000000<=b)(a:b<=1000000000000):eu (dg k 2) (dF .i64 b 1) b=b+eU k:=by
 unfold eU
 by_cases h:k=2
 ·subst h;rw[show dg 2 2=true from rfl,cO rfl];exact dI VW VW
 ·rw[show dg k 2=false by simpa[dg] using h,cK h];show b=b+0;omega
def vx{h:Int->Int->Option Tm}{φ:Int->Int->Tm}{M:Int}(y:∀i b,0<=i->i<=M->0<=b->b<=10000000000->h i b=some (φ i b)):∀(n:Nat) (t:Tm) (b:Int),t.acU<=n->t.acU<=50000000->t.ok=true->t.acY M=true->0<=b->b+t.acU<=10000000000->fT n t b (λ(s:Unit) (g:Int) (m:Int)=>qv (h g m) s) ()=some (t.HV φ b,()):=by
 intro n
 induction n with
 |zero=>intro t b h;have:=t.dp;omega
 |succ n z=>
  intro t b hn A o p B q;cases t with
  |mk k i s l=>
   rw[Tm.cN] at hn A q;have hlen:=Tm.ek l;have e:=o;rw[Tm.fV,ft] at o;have C:=Ty.vZ o.1;rw[Tm.er,ft,aan,j7] at p;rw[fT,Tm.yx]
   by_cases r:k=1
   ·subst r;have hi:=(Tm.kT e).2.1;rw[cO abq,cO rfl];simp only[Tm.eP];rw[y i b hi p.1 B VW,DR,cJ]
   ·rw[cK (by simpa[dg] using r),cK r];simp only[Tm.dR,Tm.dd,Tm.dn,Tm.eP,c6];rw[oB VW,cH,db VW,cX,wC k b VW VW];have D:=kf k
    have loop:∀(ts:List Tm) (j:Nat) (v:List Tm),(∀t∈ts,t∈l)->v.length+ts.length<=50000000->dN (λ(E:Int) (w:Tm)=>(qw λ(a:List Tm) (v107:Unit)=>
       cT (fT n w (b+eU k) (λ(s:Unit) (g:Int) (m:Int)=>qv (h g m) s) v107) λc f=>
       fD (eJ a [c])<|some ((.next ((fa a [c]),f)):eL ((List Tm)×Unit) (Tm×Unit)))) ts j (v,())=some (.inl (v++ts.map (Tm.HV φ (b+eU k)),())):=by
     intro ts
     induction ts with
     |nil=>intro j v _ _;simp|cons t ts x=>
      intro j v hm F;simp only[kN] at F;have d:=hm t aa4;have G:=dh Tm.acU d;rw[dJ];simp only[qw];rw[z t (b+eU k) VW VW ((Tm.kT e).2.2.2.1 t d) (p.2 t d) VW VW,cJ,dS aa_,cX];simp only[cH,dW];rw[fx];have:=x (j+1) (v++[t.HV φ (b+eU k)]) (λu hu=>hm u (by simp[hu])) aa_;rw[this];simp
    rw[loop l 0 [] (λt h=>h) aa_,cH];simp
structure Bd (t:Tm):Prop where
 ok:t.ok=true
 acY:t.acY 1000000000000=true
 acU:t.acU<=50000000
def Tm.M5(f c:Int)(n:0<=f):∀(t:Tm) (b:Int),0<=b->t.ok=true->t.HV (λi b=>.mk 1 (if f<=i-b then i+c else i) (.mk 0 []) []) b=t.up (f+b) c:=by
 intro t
 induction t using Tm.ind with
 |h k i s l g=>
  intro b o a;have hi:=Tm.kT a;rw[Tm.yx,Tm.kJ]
  by_cases d:k=1
  ·subst d;rw[cO rfl]
   have j:l=[]:=by
    have:=hi.2.2.2.2;unfold gx at this;rw[cO (.inl rfl)] at this;exact Aa VW
   have hs:s=.mk 0 []:=by
    rw[Tm.fV] at a;simp only[Tm.node,ft] at a;have:=a.1.2;rw[cK aaK] at this;exact(Ty.lB s).1 this
   subst j;subst hs;simp only[V2,TA]
   congr 1
   by_cases h:f+b<=i
   ·rw[cO h,cO VW]
   ·rw[cK h,cK VW]
  ·rw[cK d,cK (λh=>d h.1)];have m:=kf k
   congr 1
   exact vW λx e=>by rw[g x e (b+eU k) VW (hi.2.2.2.1 x e),show f+(b+eU k)=f+b+eU k by omega]
def BI{t:Tm}{f c:Int}(h:Bd t)(d:0<=f)(e:f<=10000000000)(m:0<=c)(g:c<=10000000000):q4 t f c=some (t.up f c):=by
 unfold q4 n8;rw[vx (h:=λj k=>tk j k f c) (φ:=λi b=>.mk 1 (if f<=i-b then i+c else i) (.mk 0 []) []) (M:=1000000000000) (λi b n h1 o p=>?_) FU t 0 (by have:=dO;have:=h.acU;omega) h.acU h.ok h.acY VW (by have:=h.acU;omega)]
 ·rw[cJ,cJ,Tm.M5 f c d t 0 VW h.ok,show f+0=f by omega]
 ·unfold tk gy;simp only[cH];rw[ed VW VW,dI VW VW]
  by_cases a:f<=i-b
  ·rw[cO a,show sM (i-b) f=true by rw[ib];exact a];rfl
  ·rw[cK a,show sM (i-b) f=false by
    cases l:sM (i-b) f with
    |false=>rfl|true=>exact absurd ((ib _ _).1 l) a];rfl
def og(k:Int):mf k=some (jz k):=by
 unfold mf jz;rw[oR];simp only[sM,Em,sy];rw[<-Bool.decide_and];exact DQ.2 (by simp only[aan];omega)
def Fm.s6{k:Int}{s:Ty}{ts:List Tm}{l:List Fm}(h:(Fm.mk k s ts l).ok=true):s.acU<=64/\(∀t∈ts,t.ok=true)/\(∀f∈l,f.ok=true):=by
 rw[Fm.fV] at h;simp only[ft,j7] at h;refine⟨?_,h.1.2,h.2⟩;have hn:=h.1.1;unfold Fm.node at hn
 split at hn
 ·simp only[ft] at hn;rw[(Ty.lB s).1 hn.1.1,Ty.cN];simp[c_]
 ·split at hn
  ·simp only[ft] at hn;rw[(Ty.lB s).1 hn.1.1,Ty.cN];simp[c_]
  ·simp only[ft,oI] at hn;exact ec hn.1.1.2
def Fm.HV(ψ:Tm->Int->Tm)(b:Int):Fm->Fm
 |.mk k s ts l=>.mk k s (ts.map λt=>ψ t b) (l.attach.map λx=>Fm.HV ψ (b+qB k) x.1)
decreasing_by
 have:=Wz x.2;simp only[Fm.mk.sizeOf_spec];omega
def Fm.yx(ψ:Tm->Int->Tm)(b k:Int)(s:Ty)(ts:List Tm)(l:List Fm):(Fm.mk k s ts l).HV ψ b=.mk k s (ts.map λt=>ψ t b) (l.map (Fm.HV ψ (b+qB k))):=by
 rw[Fm.HV]
 congr 1
 exact Na
def od{h:Tm->Int->Option Tm}{ψ:Tm->Int->Tm}(J:∀t b,Bd t->0<=b->b<=1000000000->h t b=some (ψ t b)):∀(n:Nat) (f:Fm) (b:Int),f.acU<=n->f.acU<=50000000->f.ok=true->f.acY 1000000000000=true->0<=b->b+f.acU<=1000000000->dQ n f b (λ(s:Unit) (q:Tm) (w:Int)=>qv (h q w) s) ()=some (f.HV ψ b,()):=by
 intro n
 induction n with
 |zero=>intro f b h;have:=f.dp;omega
 |succ n K=>
  intro f b hn L M A N B;cases f with
  |mk k s ts l=>
   rw[Fm.cN] at hn L B;have O:=gk Tm.acU ts λt _=>t.dp;have P:=gk Fm.acU l λt _=>t.dp;obtain⟨Q,C,D⟩:=Fm.s6 M;rw[Fm.er,ft,j7,j7] at A;rw[dQ,Fm.yx];simp only[Fm.dR,Fm.dd,Fm.dn,Fm.fU,c6];rw[oB VW,cH,db VW,cX];have R:=B5 k
   have m:∀(us:List Tm) (j:Nat) (v:List Tm),(∀t∈us,t∈ts)->v.length+us.length<=50000000->dN (λ(S:Int) (E:Tm)=>(qw λ(v91:List Tm) (F:Unit)=>
      cT (qv (h E b) F) λi x=>
      fD (eJ v91 [i])<|some ((.next ((fa v91 [i]),x)):eL ((List Tm)×Unit) (Fm×Unit)))) us j (v,())=some (.inl (v++us.map (λt=>ψ t b),())):=by
    intro us
    induction us with
    |nil=>intro j v _ _;simp|cons t us o=>
     intro j v hm G;simp only[kN] at G;have d:=hm t aa4;have H:=dh Tm.acU d;rw[dJ];simp only[qw];rw[J t b ⟨C t d,A.1 t d,VW⟩ N VW,DR,cJ,dS aa_,cX];simp only[cH,dW];rw[fx];have:=o (j+1) (v++[ψ t b]) (λu hu=>hm u (by simp[hu])) aa_;rw[this];simp
   rw[m ts 0 [] (λt h=>h) aa_,cH];simp only[cU,qw];rw[og,cH]
   have p:∀(us:List Fm) (j:Nat) (v:List Fm),(∀t∈us,t∈l)->v.length+us.length<=50000000->dN (λ(y:Int) (e:Fm)=>(qw λ(a:List Fm) (v212:Unit)=>
      cT (dQ n e (b+qB k) (λ(s:Unit) (q:Tm) (w:Int)=>qv (h q w) s) v212) λc g=>
      fD (eJ a [c])<|some ((.next ((fa a [c]),g)):eL ((List Fm)×Unit) (Fm×Unit)))) us j (v,())=some (.inl (v++us.map (Fm.HV ψ (b+qB k)),())):=by
    intro us
    induction us with
    |nil=>intro j v _ _;simp|cons t us o=>
     intro j v hm G;simp only[kN] at G;have d:=hm t aa4;have H:=dh Fm.acU d;rw[dJ];simp only[qw];rw[K t (b+qB k) VW VW (D t d) (A.2 t d) VW VW,cJ,dS aa_,cX];simp only[cH,dW];rw[fx];have:=o (j+1) (v++[t.HV ψ (b+qB k)]) (λu hu=>hm u (by simp[hu])) aa_;rw[this];simp
   have fin:(fD (dK l)<|cI (dN (λ(y:Int) (e:Fm)=>(qw λ(a:List Fm) (v212:Unit)=>
      cT (dQ n e (b+qB k) (λ(s:Unit) (q:Tm) (w:Int)=>qv (h q w) s) v212) λc g=>
      fD (eJ a [c])<|some ((.next ((fa a [c]),g)):eL ((List Fm)×Unit) (Fm×Unit)))) l 0 ([],())) (eG (qw λ(a:List Fm) (v212:Unit)=>some ((Fm.mk k s ([]++ts.map λt=>ψ t b) a),v212)) (λr=>some r)))=some (Fm.mk k s (ts.map λt=>ψ t b) (l.map (Fm.HV ψ (b+qB k))),()):=by
    rw[db VW,cX,p l 0 [] (λt h=>h) aa_,cH];simp
   by_cases z:jz k=true
   ·rw[cO z]
    have I:b+qB k=b+1:=by unfold qB;rw[cO z]
    rw[I] at fin|-;rw[dI VW VW];exact fin
   ·rw[cK z]
    have I:b+qB k=b:=by unfold qB;rw[cK z];omega
    rw[I] at fin|-;exact fin
def Fm.M5(f c:Int):∀(g:Fm) (b:Int),g.HV (λt b=>t.up (f+b) c) b=g.up (f+b) c:=by
 intro g
 induction g using Fm.ind with
 |h k s ts l a=>
  intro b;rw[Fm.yx,Fm.kJ]
  congr 1
  exact vW λx d=>by rw[a x d (b+qB k),show f+(b+qB k)=f+b+qB k by omega]
def tG{g:Fm}{f c:Int}(d:g.ok=true)(hn:g.acU<=50000000)(e:g.acY 1000000000000=true)(m:0<=f)(i:f<=1000000000)(j:0<=c)(a:c<=10000000000):en g f c=some (g.up f c):=by
 unfold en;rw[od (h:=λk l=>lX k l f c) (ψ:=λt b=>t.up (f+b) c) (λt b h n h1=>?_) FU g 0 (by have:=dO;omega) hn d e VW VW]
 ·rw[cJ,Fm.M5 f c g 0,show f+0=f by omega]
 ·unfold lX;rw[dI VW VW,BI h VW VW j a];rfl
def Tm.Q8{i:Int}{s:Ty}{l:List Tm}(a:(Tm.mk 1 i s l).ok=true):l=[]/\s=.mk 0 []:=by
 have hi:=Tm.kT a;constructor
 ·have:=hi.2.2.2.2;unfold gx at this;rw[cO (.inl rfl)] at this;exact Aa VW
 ·rw[Tm.fV] at a;simp only[Tm.node,ft] at a;have:=a.1.2;rw[cK aaK] at this;exact(Ty.lB s).1 this
def N7(a:Int)(s:Tm)(i b:Int):Tm:=if i-b=a then s.up 0 (a+b)else if a<i-b then .mk 1 (i-1) (.mk 0 []) [] else .mk 1 i (.mk 0 []) []
def Tm.JJ(a:Int)(s:Tm):∀(t:Tm) (b:Int),t.ok=true->t.HV (N7 a s) b=Tm.nj (a+b) t s:=by
 intro t
 induction t using Tm.ind with
 |h k i ty l g=>
  intro b d;have hi:=Tm.kT d;rw[Tm.yx,Tm.nC]
  by_cases c:k=1
  ·subst c;obtain⟨rfl,rfl⟩:=Tm.Q8 d;rw[cO rfl,cO rfl];unfold N7 Tm.uo
   by_cases h1:i-b=a
   ·rw[cO h1,cO VW]
   ·rw[cK h1,cK (show¬i=a+b by omega)]
    by_cases e:a<i-b
    ·rw[cO e,cO VW]
    ·rw[cK e,cK VW]
  ·rw[cK c,cK c]
   congr 1
   exact vW λx f=>by rw[g x f (b+eU k) (hi.2.2.2.1 x f),show a+(b+eU k)=a+b+eU k by omega]
def FX(s:Tm):Prop:=∀c,0<=c->c<=10000000000->q4 s 0 c=some (s.up 0 c)
def Bd.lift{s:Tm}(h:Bd s):FX s:=λc a h1=>BI h VW VW a h1
def Lj{t s:Tm}{a:Int}(h:Bd t)(hs:FX s)(K:0<=a)(D:a<=1000000000):zd t a s=some (Tm.nj a t s):=by
 unfold zd n8;have hn:=h.acU
 have key:∀(n:Nat) (t:Tm) (b:Int),t.acU<=n->t.acU<=50000000->t.ok=true->t.acY 1000000000000=true->0<=b->b+t.acU<=1000000000->fT n t b (λ(f:Unit) (m:Int) (g:Int)=>qv (oa m g a s) f) ()=fT n t b (λ(f:Unit) (m:Int) (g:Int)=>qv (if g<=1000000000 then oa m g a s else some (N7 a s m g)) f) ():=by
  intro n
  induction n with
  |zero=>intro t b h;have:=t.dp;omega
  |succ n E=>
   intro t b hn r F C G y;cases t with
   |mk k i ty l=>
    rw[Tm.cN] at hn r y;rw[Tm.er,ft,aan,j7] at C;have hi:=Tm.kT F;have H:=kf k;rw[fT,fT]
    by_cases z:k=1
    ·subst z;rw[cO abq,cO abq,cO VW]
    ·rw[cK (by simpa[dg] using z),cK (by simpa[dg] using z)];simp only[Tm.dR,Tm.dd,Tm.dn,Tm.eP,c6];rw[wC k b VW VW]
     have loop:∀(ts:List Tm) (j:Nat) (v:List Tm),(∀t∈ts,t∈l)->dN (λ(A:Int) (p:Tm)=>(qw λ(d:List Tm) (v107:Unit)=>
        cT (fT n p (b+eU k) (λ(f:Unit) (m:Int) (g:Int)=>qv (oa m g a s) f) v107) λe o=>
        fD (eJ d [e])<|some ((.next ((fa d [e]),o)):eL ((List Tm)×Unit) (Tm×Unit)))) ts j (v,())=dN (λ(A:Int) (p:Tm)=>(qw λ(d:List Tm) (v107:Unit)=>
        cT (fT n p (b+eU k) (λ(f:Unit) (m:Int) (g:Int)=>qv (if g<=1000000000 then oa m g a s else some (N7 a s m g)) f) v107) λe o=>
        fD (eJ d [e])<|some ((.next ((fa d [e]),o)):eL ((List Tm)×Unit) (Tm×Unit)))) ts j (v,()):=by
      intro ts
      induction ts with
      |nil=>intro j v _;rfl|cons t ts B=>
       intro j v hm;have q:=hm t aa4;have I:=dh Tm.acU q;rw[dJ,dJ];simp only[qw];rw[E t (b+eU k) VW VW (hi.2.2.2.1 t q) (C.2 t q) VW VW]
       congr 1
       funext c
       cases c with
       |next st=>
        obtain⟨J,u⟩:=st;exact B (j+1) J (λu hu=>hm u (by simp[hu]))
       |_=>rfl
     rw[loop l 0 [] (λt h=>h)]
 rw[key FU t 0 (by have:=dO;omega) hn h.ok h.acY VW VW];rw[vx (h:=λm g=>if g<=1000000000 then oa m g a s else some (N7 a s m g)) (φ:=N7 a s) (M:=1000000000000) (λi b G h1 L N=>?_) FU t 0 (by have:=dO;omega) h.acU h.ok h.acY VW VW]
 ·rw[cJ,cJ,Tm.JJ a s t 0 h.ok,show a+0=a by omega]
 ·by_cases r:b<=1000000000
  ·rw[cO r];unfold oa gy N7;rw[ed VW VW,dI VW VW]
   by_cases w:i-b=a
   ·rw[cO (by simpa[dg] using w),cO w,hs _ VW VW];rfl
   ·rw[cK (by simpa[dg] using w),cK w]
    by_cases x:a<i-b
    ·rw[cO (by rw[eV];exact x),cO x,ed VW VW];rfl
    ·rw[cK (by rw[eV];exact x),cK x];rfl
  ·rw[cK r]
def Fm.JJ(a:Int)(s:Tm):∀(g:Fm) (b:Int),g.HV (λt b=>Tm.nj (a+b) t s) b=Fm.nj (a+b) g s:=by
 intro g
 induction g using Fm.ind with
 |h k ty ts l c=>
  intro b;rw[Fm.yx,Fm.nC]
  congr 1
  exact vW λx d=>by rw[c x d (b+qB k),show a+(b+qB k)=a+b+qB k by omega]
def vi{g:Fm}{s:Tm}{a:Int}(B:g.ok=true)(hn:g.acU<=50000000)(I:g.acY 1000000000000=true)(hs:FX s)(P:0<=a)(J:a<=100000000):jU g a s=some (Fm.nj a g s):=by
 unfold jU
 have key:∀(n:Nat) (f:Fm) (b:Int),f.acU<=n->f.acU<=50000000->f.ok=true->0<=b->b+f.acU<=100000000->dQ n f b (λ(i:Unit) (p:Tm) (m:Int)=>qv (hO p m a s) i) ()=dQ n f b (λ(i:Unit) (p:Tm) (m:Int)=>qv (if m<=100000000 then hO p m a s else some (Tm.nj (a+m) p s)) i) ():=by
  intro n
  induction n with
  |zero=>intro f b h;have:=f.dp;omega
  |succ n K=>
   intro f b hn C B L E;cases f with
   |mk k ty ts l=>
    rw[Fm.cN] at hn C E;obtain⟨_,_,F⟩:=Fm.s6 B;have M:=B5 k;rw[dQ,dQ];simp only[Fm.dR,Fm.dd,Fm.dn,Fm.fU,c6,cO (show b<=100000000 by omega),og,cH]
    have loop:∀(us:List Fm) (j:Nat) (v:List Fm) (x:Int),0<=x->x+c_ Fm.acU l<=100000000->(∀t∈us,t∈l)->dN (λ(y:Int) (q:Fm)=>(qw λ(d:List Fm) (v212:Unit)=>
       cT (dQ n q x (λ(i:Unit) (p:Tm) (m:Int)=>qv (hO p m a s) i) v212) λe w=>
       fD (eJ d [e])<|some ((.next ((fa d [e]),w)):eL ((List Fm)×Unit) (Fm×Unit)))) us j (v,())=dN (λ(y:Int) (q:Fm)=>(qw λ(d:List Fm) (v212:Unit)=>
       cT (dQ n q x (λ(i:Unit) (p:Tm) (m:Int)=>qv (if m<=100000000 then hO p m a s else some (Tm.nj (a+m) p s)) i) v212) λe w=>
       fD (eJ d [e])<|some ((.next ((fa d [e]),w)):eL ((List Fm)×Unit) (Fm×Unit)))) us j (v,()):=by
     intro us
     induction us with
     |nil=>intro j v x _ _ _;rfl|cons t us G=>
      intro j v x z H hm;have A:=hm t aa4;have N:=dh Fm.acU A;rw[dJ,dJ];simp only[qw];rw[K t x VW VW (F t A) z VW]
      congr 1
      funext c
      cases c with
      |next st=>
       obtain⟨O,u⟩:=st;exact G (j+1) O x z H (λu hu=>hm u (by simp[hu]))
      |_=>rfl
    congr 1
    funext Q
    congr 1
    congr 1
    funext o
    cases o with
    |inr r=>rfl|inl st=>
     obtain⟨v,u⟩:=st;simp only[cU,qw]
     by_cases D:jz k=true
     ·rw[cO D,cO D,dI VW VW];rw[show(([]:List Fm),u)=([],())from rfl,loop l 0 [] (b+1) VW VW (λt h=>h)]
     ·rw[cK D,cK D];rw[show(([]:List Fm),u)=([],())from rfl,loop l 0 [] b VW VW (λt h=>h)]
 rw[key FU g 0 (by have:=dO;omega) hn B VW VW];rw[od (h:=λp m=>if m<=100000000 then hO p m a s else some (Tm.nj (a+m) p s)) (ψ:=λt b=>Tm.nj (a+b) t s) (λt b h L h1=>?_) FU g 0 (by have:=dO;omega) hn B I VW VW]
 ·rw[cJ,Fm.JJ a s g 0,show a+0=a by omega]
 ·by_cases C:b<=100000000
  ·rw[cO C];unfold hO;rw[dI VW VW,Lj h hs VW VW];rfl
  ·rw[cK C]
def ED{a i b c:Int}(d:-1000000000000000<=i)(h1:i<=1000000000000000)(e:0<=b)(f:b<=10000000000)(g:0<=c)(j:c<=10000000000):nX i b a c=some (c+if i-b=a then 1 else 0):=by
 unfold nX;rw[ed VW VW]
 by_cases h:i-b=a
 ·rw[cO (by simpa[dg] using h),cO h,dI VW VW]
 ·rw[cK (by simpa[dg] using h),cK h,ym]
def ET(a:Int):∀(n:Nat) (t:Tm) (b c:Int),t.acU<=n->t.acU<=50000000->t.ok=true->t.acY 1000000000000=true->0<=b->b+t.acU<=1000000000->0<=c->c+t.acU<=1000000000->iO n t b (λ(s:Int) (f:Int) (g:Int)=>nX f g a s) c=some (c+(t.ac0 (a+b):Int)):=by
 intro n
 induction n with
 |zero=>intro t b c h;have:=t.dp;omega
 |succ n y=>
  intro t b c hn z A w B m x C;cases t with
  |mk k i s l=>
   rw[Tm.cN] at hn z m C;have hlen:=Tm.ek l;have hi:=Tm.kT A;rw[Tm.er,ft,aan,j7] at w;have D:=kf k;rw[iO,Tm.fu];simp only[c6]
   have loop:∀(ts:List Tm) (j:Nat) (v:Int),(∀t∈ts,t∈l)->0<=v->v+c_ Tm.acU ts<=1000000000->dN (λ(E:Int) (o:Tm)=>(λ(v28:Int)=>
      cI (iO n o (b+eU k) (λ(s:Int) (f:Int) (g:Int)=>nX f g a s) v28) λp=>
      some ((.next p):eL Int Int))) ts j v=some (.inl (v+(c_ (Tm.ac0 (a+b+eU k)) ts:Int))):=by
    intro ts
    induction ts with
    |nil=>intro j v _ _ _;simp[c_]|cons t ts q=>
     intro j v hm v0 v1;simp only[c_] at v1|-;have d:=hm t aa4;have F:=dh Tm.acU d;have G:=t.gW (a+b+eU k);rw[dJ,y t (b+eU k) v VW VW (hi.2.2.2.1 t d) (w.2 t d) VW VW v0 VW,show a+(b+eU k)=a+b+eU k by omega];simp only[cH,dW];rw[q (j+1) _ (λu hu=>hm u (by simp[hu])) VW VW]
     congr 2
     push_cast
     omega
   by_cases r:k=1
   ·subst r;rw[cO (show dg (Tm.mk 1 i s l).acS 1=true from rfl)];simp only[Tm.dd,Tm.dn,Tm.eP];rw[ED VW VW B VW x VW,cH,wC 1 b VW VW,db VW,cX];rw[loop l 0 _ (λt h=>h) (by split<;>omega) (by split<;>omega)];simp only[cH,cU]
    congr 1
    by_cases e:i-b=a
    ·rw[cO e,cO (show True/\i=a+b from⟨trivial,VW⟩)];omega
    ·rw[cK e,cK (show¬(True/\i=a+b)fromλh=>e VW)];omega
   ·rw[cK (show¬dg (Tm.mk k i s l).acS 1=true by simpa[dg] using r),cK (show¬(k=1/\i=a+b)fromλh=>r h.1)];simp only[Tm.dd,Tm.dn,Tm.eP];rw[wC k b VW VW,db VW,cX];rw[loop l 0 c (λt h=>h) x VW];simp only[cH,cU]
    congr 1
    push_cast
    omega
def AG{t:Tm}(a:Int)(h:Bd t):sA t a=some (t.ac0 a:Int):=by
 unfold sA re;have hn:=h.acU;rw[ET a FU t 0 0 (by have:=dO;omega) hn h.ok h.acY VW VW VW VW];simp only[cH];rw[show a+0=a by omega,X5]
def z_{a:Int}(U:0<=a)(H:a<=100000000):∀(n:Nat) (f:Fm) (b c:Int),f.acU<=n->f.acU<=50000000->f.ok=true->f.acY 1000000000000=true->0<=b->b+f.acU<=100000000->0<=c->c+f.acU<=1000000000->ly n f b (λ(s:Int) (p:Tm) (q:Int)=>iG p q s a) c=some (c+(f.ac0 (a+b):Int)):=by
 intro n
 induction n with
 |zero=>intro f b c h;have:=f.dp;omega
 |succ n I=>
  intro f b c hn J K r V w L M;cases f with
  |mk k s ts l=>
   rw[Fm.cN] at hn J w M;have N:=gk Tm.acU ts λt _=>t.dp;have O:=gk Fm.acU l λt _=>t.dp;obtain⟨_,y,z⟩:=Fm.s6 K;rw[Fm.er,ft,j7,j7] at r;have P:=B5 k;rw[ly,Fm.fu];simp only[Fm.dd,Fm.dn,Fm.fU,c6];rw[db VW,cX]
   have i:∀(us:List Tm) (j:Nat) (v:Int),(∀t∈us,t∈ts)->0<=v->v+c_ Tm.acU us<=1000000000->dN (λ(Q:Int) (A:Tm)=>(λ(B:Int)=>
      cI (iG A b B a) λC=>
      some ((.next C):eL Int Int))) us j v=some (.inl (v+(c_ (Tm.ac0 (a+b)) us:Int))):=by
    intro us
    induction us with
    |nil=>intro j v _ _ _;simp[c_]|cons t us e=>
     intro j v hm v0 v1;simp only[c_] at v1|-;have d:=hm t aa4;have D:=dh Tm.acU d;have R:=t.gW (a+b);rw[dJ];unfold iG at e|-;rw[dI (a:=a) VW VW,AG (a+b) ⟨y t d,r.1 t d,VW⟩];simp only[cH,dW];rw[dI VW VW];have:=e (j+1) (v+(t.ac0 (a+b):Int)) (λu hu=>hm u (by simp[hu])) VW VW;rw[dI (a:=a) VW VW] at this;rw[this]
     congr 2
     push_cast
     omega
   rw[i ts 0 c (λt h=>h) L VW];have S:=jK (f:=Tm.ac0 (a+b)) (g:=Tm.acU) (l:=ts) λx _=>x.gW _;simp only[cH,cU];rw[og,cH]
   have m:∀(us:List Fm) (j:Nat) (v:Int),(∀t∈us,t∈l)->0<=v->v+c_ Fm.acU us<=1000000000->dN (λ(T:Int) (E:Fm)=>(λ(v72:Int)=>
      cI (ly n E (b+qB k) (λ(s:Int) (p:Tm) (q:Int)=>iG p q s a) v72) λF=>
      some ((.next F):eL Int Int))) us j v=some (.inl (v+(c_ (Fm.ac0 (a+b+qB k)) us:Int))):=by
    intro us
    induction us with
    |nil=>intro j v _ _ _;simp[c_]|cons t us e=>
     intro j v hm v0 v1;simp only[c_] at v1|-;have d:=hm t aa4;have D:=dh Fm.acU d;have R:=t.gW (a+b+qB k);rw[dJ,I t (b+qB k) v VW VW (z t d) (r.2 t d) VW VW v0 VW,show a+(b+qB k)=a+b+qB k by omega];simp only[cH,dW];rw[e (j+1) _ (λu hu=>hm u (by simp[hu])) VW VW]
     congr 2
     push_cast
     omega
   have fin:=m l 0 (c+(c_ (Tm.ac0 (a+b)) ts:Int)) (λt h=>h) VW VW
   by_cases o:jz k=true
   ·rw[cO o]
    have G:qB k=1:=by unfold qB;rw[cO o]
    rw[G] at fin|-;rw[dI VW VW,db VW,cX,fin];simp only[cH,cU]
    congr 1
    push_cast
    omega
   ·rw[cK o]
    have G:qB k=0:=by unfold qB;rw[cK o]
    rw[G] at fin|-;rw[ym b] at fin;rw[db VW,cX,fin];simp only[cH,cU]
    congr 1
    push_cast
    omega
def pP{f:Fm}{a:Int}(c:f.ok=true)(hn:f.acU<=50000000)(d:f.acY 1000000000000=true)(e:0<=a)(b:a<=100000000):jH f a=some (f.ac0 a:Int):=by
 unfold jH;rw[z_ e b FU f 0 0 (by have:=dO;omega) hn c d VW VW VW VW];simp only[cH];rw[show a+0=a by omega,X5]
noncomputable def oK (f:Fm) (t:Tm):Fm×Int:=if 4096<(Fm.nj 0 f t).acU then(.mk 0 (.mk 0 []) [] [],4)else(Fm.nj 0 f t,0)
noncomputable def F3 (f:Fm) (g:List Ty):Int:=if wh g≠0 then wh g else if f.err≠0 then f.err else f.vn g
def jd.of{g:List Ty}(h:wh g=0):jd g/\g.length<=16:=by
 unfold wh at h
 split at h
 ·cases h
 ·rename_i d;refine⟨λs hs=>?_,VW⟩
  have key:∀l:List Ty,fK (l.map Ty.err)=0->∀s∈l,s.err=0:=by
   intro l
   induction l with
   |nil=>intro _ s hs;cases hs
   |cons a l c=>
    intro h s hs;simp only[wb,fK] at h
    by_cases b:a.err=0
    ·rw[cO b] at h;rcases j0.1 hs with rfl|hs
     ·exact b
     ·exact c h s hs
    ·rw[cK b] at h;exact absurd h b
  exact key g h s hs
def vb{g:List Ty}(hg:jd g)(c:g.length<=1000000):nK g=some (g.map sg):=by
 unfold nK;simp only[c6]
 rw[db VW,cX,hS sg g 0 [] aa_ (λj x v a b=>by
  rw[km (hg x a),cH,dS (by simpa using b),cX,fx])]
 simp
def se{f:Fm}{g:List Ty}(hw:f.wt<=1000000000)(c:g.length<=1000000)(h:∀t∈g,t.acU<=1000000000):lz g f=some (F3 f g):=by
 unfold lz F3;rw[wx g c h,cH]
 by_cases a:wh g=0
 ·rw[cK (by rw[da];simpa using a),cK (by simpa using a),nB hw,cH]
  by_cases he:f.err=0
  ·obtain⟨hg,d⟩:=jd.of a;obtain⟨b,hn⟩:=Fm.fS he;rw[cK (by rw[da];simpa using he),cK (by simpa using he),vb hg c,cH,vB f b FU (by have:=dO;omega) g hg VW hn];rfl
  ·rw[cO (by rw[da];exact he),cO he]
 ·rw[cO (by rw[da];exact a),cO a]
def r7{f:Fm}{g:List Ty}(hw:f.wt<=1000000000)(c:g.length<=1000000)(h:∀t∈g,t.acU<=1000000000):iH g f=some (F3 f g):=by
 unfold iH jV F3;rw[sx g c h,cH]
 by_cases a:wh g=0
 ·rw[cK (by rw[da];simpa using a),cK (by simpa using a),lU hw,cH]
  by_cases he:f.err=0
  ·obtain⟨hg,d⟩:=jd.of a;obtain⟨b,hn⟩:=Fm.fS he;rw[cK (by rw[da];simpa using he),cK (by simpa using he),zh f b FU (by have:=dO;omega) g hg VW hn];rfl
  ·rw[cO (by rw[da];exact he),cO he];rfl
 ·rw[cO (by rw[da];exact a),cO a]
def H4{f:Fm}{t:Tm}(he:f.err=0)(b:t.err=0)(g:f.acY 1000000000000=true)(d:t.acY 1000000000000=true):gZ f t=some (oK f t):=by
 obtain⟨a,hn⟩:=Fm.fS he;obtain⟨c,e⟩:=Tm.fS b;have hw:=f.iN a;have j:=t.iN c;have n:=t.dp;have k:=f.gW 0;have l:=Fm.q_ t f 0 a;unfold gZ oK;rw[pN VW,cJ,rW VW,cJ,pP a VW g VW VW,cH,cO he,cO b];rw[ed VW VW]
 have hmul:(f.ac0 0:Int)*((t.acU:Int)-1)=((f.ac0 0*t.acU:Nat):Int)-(f.ac0 0:Int):=by rw[Xy,yn];push_cast;rfl
 have m:f.ac0 0*t.acU<=4096*4096:=Ts VW e;have h:f.ac0 0<=f.ac0 0*t.acU:=Uk _ VW;rw[zJ (by rw[hmul];omega) (by rw[hmul];omega),hmul,dI VW VW]
 by_cases i:4096<(Fm.nj 0 f t).acU
 ·rw[cO (by rw[eV];omega),cO i]
 ·rw[cK (by rw[eV];omega),cK i,vi a VW g (Bd.lift ⟨c,d,VW⟩) VW VW];rfl
def F6{f:Fm}{s:Tm}(he:f.err=0)(b:s.err=0)(h:f.acY 536870912=true)(c:s.acY 536870912=true)(d:(Fm.nj 0 f s).ok=true):wK f 0 s=some (oK f s):=by
 obtain⟨a,hn⟩:=Fm.fS he;obtain⟨e,g⟩:=Tm.fS b;have hw:=f.iN a;have k:=s.iN e;have l:=s.dp;have m:=f.gW 0;have n:=Fm.q_ s f 0 a;unfold wK oK;rw[lU VW,he];simp only[cH,da,ne_eq,NL,kY,c6,ki,eV,lN,r5];rw[cK VW,lL VW,b,FA FU f _ (by rw[dO];omega) VW,h,Bu _ VW,c];simp only[cH,NL,kY,if_true,Pk,oZ];rw[rF FU f (by rw[dO];omega) VW,GZ FU f 0 (by rw[dO];omega) VW VW VW,nr FU s (by rw[dO];omega) VW];simp only[cH];rw[ed VW VW]
 have hmul:(f.ac0 0:Int)*((s.acU:Int)-1)=((f.ac0 0*s.acU:Nat):Int)-(f.ac0 0:Int):=by rw[Xy,yn];push_cast;rfl
 have o:f.ac0 0*s.acU<=4096*4096:=Ts VW g;have i:f.ac0 0<=f.ac0 0*s.acU:=Uk _ VW;rw[zJ (by rw[hmul];omega) (by rw[hmul];omega),hmul,dI VW VW]
 by_cases j:4096<(Fm.nj 0 f s).acU
 ·rw[cO VW,cO j]
 ·rw[cK VW,cK j,Ml FU f 0 0 s (by rw[dO];omega) VW VW VW VW (Fm.lT f VW h) a VW (Tm.lT s VW c)];simp only[cH,ym];have p:=Fm.iN _ d;rw[kD VW];rfl
def zK{α:Type}{E:α->α->Option Bool}{m l:List α}(hlen:l.length=m.length)(h:∀x∈l,∀y,∃r,E x y=some r/\(r=true↔x=y)):∃o:Unit⊕Bool,dN (λ(j:Int) (x:α) (_:Unit)=>cI (de m j) λy=>cI (E x y) λz=>if z then(some (eL.next ()):Option (eL Unit Bool))else some (eL.ret false)) l 0 ()=some o/\(o=.inl ()/\l=m\/o=.inr false/\l≠m):=by
 let p:α->α->Bool:=λx y=>(E x y).getD false
 have c:∀x∈l,∀y,E x y=some (p x y)/\(p x y=true↔x=y):=by
  intro x a y;obtain⟨r,h1,b⟩:=h x a y
  have e:p x y=r:=by show(E x y).getD false=r;rw[h1];rfl
  rw[e];exact⟨h1,b⟩
 have key:=w9 (F:=λ(j:Int) (x:α) (_:Unit)=>cI (de m j) λy=>cI (E x y) λz=>if z then some (eL.next ())else some (eL.ret false)) p m l 0 m rfl hlen (by
  intro k x y a hy;rw[im,hy];simp only[cH];rw[(c x a y).1]
  rfl)
 have he:=wW p l m λx a y=>(c x a y).2;rw[key];cases b:uF p l m with
 |false=>rw[b] at he;exact⟨_,rfl,.inr ⟨rfl,λe=>absurd (he.2 e) aa4⟩⟩
 |true=>rw[b] at he;exact⟨_,rfl,.inl ⟨rfl,he.1 rfl⟩⟩
def Al:∀(n:Nat) (a b:Fm),a.wt<=n->a.wt<=1000000000->∃r,j4 n a b=some r/\(r=true↔a=b):=by
 intro n
 induction n with
 |zero=>intro t b h;have:=t.gX;omega
 |succ n q=>
  intro a b h u;cases a with
  |mk k s ts l=>
  cases b with
  |mk k' f us m=>
   rw[Fm.ea] at h u;have B:=Fm.mQ l;have v:=Tm.mQ ts;rw[j4];simp only[Fm.dd,Fm.dn,Fm.fU,Fm.dR,c6,db (l:=l) VW,db (l:=ts) VW,cX,da,ej]
   have no:¬(k=k'/\s=f/\ts=us/\l=m)->∃r,some false=some r/\(r=true↔Fm.mk k s ts l=Fm.mk k' f us m):=by
    intro hn;refine⟨false,rfl,?_⟩;simp only[oZ,Tz,Fm.mk.injEq];exact hn
   by_cases d:k≠k'
   ·rw[cO d,cO trivial];exact no λh=>d h.1
   ·rw[cK d];obtain⟨r,w,p⟩:=wz FU s f (by rw[dO];omega) VW;rw[w];simp only[cH]
    by_cases e:r=true
    ·have hs:=p.1 e;rw[cO e]
     by_cases g:(ts.length:Int)≠us.length
     ·rw[cO g,cO trivial];exact no λh=>g (by rw[h.2.2.1])
     ·rw[cK g]
      by_cases hm:(l.length:Int)≠m.length
      ·rw[cO hm];exact no λh=>hm (by rw[h.2.2.2])
      ·rw[cK hm];obtain⟨o,z,k2⟩:=zK (E:=λx y=>iz FU x y) (l:=ts) (m:=us) VW (λx c y=>w4 FU x y (by have:=dh Tm.wt c;rw[dO];omega) (by have:=dh Tm.wt c;omega));rw[z];rcases k2 with⟨rfl,i⟩|⟨rfl,i⟩
       ·simp only[cH,cU];obtain⟨o,q1,A⟩:=zK (E:=λx y=>j4 n x y) (l:=l) (m:=m) VW (λx c y=>q x y (by have:=dh Fm.wt c;omega) (by have:=dh Fm.wt c;omega));rw[q1];rcases A with⟨rfl,j⟩|⟨rfl,j⟩
        ·exact⟨true,rfl,by simp only[ZR,Fm.mk.injEq];exact⟨zq.1 d,hs,i,j⟩⟩
        ·exact no λh=>j h.2.2.2
       ·exact no λh=>i h.2.2.1
    ·rw[cK e,cO trivial];exact no λh=>e (p.2 h.2.1)
def HX:∀(n:Nat) (a b:Fm),a.wt<=n->a.wt<=1000000000->∃r,qX n a b=some r/\(r=true↔a=b):=by
 intro n
 induction n with
 |zero=>intro t b h;have:=t.gX;omega
 |succ n u=>
  intro a b h v;cases a with
  |mk k s ts l=>
  cases b with
  |mk k' i us m=>
   rw[Fm.ea] at h v;have C:=Fm.mQ l;have w:=Tm.mQ ts;rw[qX];simp only[Fm.dd,Fm.dn,Fm.fU,Fm.dR,c6,db (l:=l) VW,cX,da,ej]
   have no:¬(k=k'/\s=i/\ts=us/\l=m)->∃r,some false=some r/\(r=true↔Fm.mk k s ts l=Fm.mk k' i us m):=by
    intro hn;refine⟨false,rfl,?_⟩;simp only[oZ,Tz,Fm.mk.injEq];exact hn
   have c:∃r,qy ts us=some r/\(r=true↔ts=us):=by
    unfold qy;simp only[da,ej,c6,db (l:=ts) VW,cX]
    by_cases d:(ts.length:Int)≠us.length
    ·rw[cO d];exact⟨false,rfl,by simp only[oZ,Tz];rintro rfl;exact d rfl⟩
    ·rw[cK d];obtain⟨o,z,k2⟩:=zK (E:=λx y=>jy FU x y) (l:=ts) (m:=us) VW (λx e y=>Aq FU x y (by have:=dh Tm.wt e;rw[dO];omega) (by have:=dh Tm.wt e;omega));rw[z];rcases k2 with⟨rfl,j⟩|⟨rfl,j⟩
     ·exact⟨true,rfl,by simpa using j⟩
     ·exact⟨false,rfl,by simpa using j⟩
   by_cases f:k≠k'
   ·rw[cO f,cO trivial];exact no λh=>f h.1
   ·rw[cK f,gU VW];simp only[cH]
    by_cases g:s.nw i=true
    ·have hs:=(Ty.mi _ _).1 g;obtain⟨r,A,q⟩:=c;rw[cO g,A];simp only[cH]
     by_cases d:r=true
     ·rw[cO d]
      by_cases hm:(l.length:Int)≠m.length
      ·rw[cO hm];exact no λh=>hm (by rw[h.2.2.2])
      ·rw[cK hm];obtain⟨o,q1,B⟩:=zK (E:=λx y=>qX n x y) (l:=l) (m:=m) VW (λx e y=>u x y (by have:=dh Fm.wt e;omega) (by have:=dh Fm.wt e;omega));rw[q1];rcases B with⟨rfl,p⟩|⟨rfl,p⟩
       ·exact⟨true,rfl,by simp only[ZR,Fm.mk.injEq];exact⟨zq.1 f,hs,q.1 d,p⟩⟩
       ·exact no λh=>p h.2.2.2
     ·rw[cK d,cO trivial];exact no λh=>d (q.2 h.2.2.1)
    ·rw[cK g,cO trivial];exact no λh=>g ((Ty.mi _ _).2 h.2.1)
def EN(l:List Ty)(t:Tm):Tm:=l.foldr (λs b=>.mk 2 0 s [b]) t
def RV{l:List Ty}(n:l.length<=1000):∀(i m:Nat) (t:Tm),i<=l.length->i<m->lp ((Qz λ(b:Int) (c:Int) (v59:Int) (d:Int) (e:List Ty) (f:List Tm)=>
   if(sM b 0) then(
   cI (de l b) λg=>
   some (.next ((dZ .i64 b 1),2,0,g.acS,g.acT,[(Tm.mk c v59 (Ty.mk d e) f)])))
   else(some (.AI (b,c,v59,d,e,f)))):(Int×Int×Int×Int×(List Ty)×(List Tm))->(Option (eL (Int×Int×Int×Int×(List Ty)×(List Tm)) (Tm)))) m ((i:Int)-1,t.acS,t.acV,t.cP.acS,t.cP.acT,t.acT)=some (.inl (-1,(EN (l.take i) t).acS,(EN (l.take i) t).acV,(EN (l.take i) t).cP.acS,(EN (l.take i) t).cP.acT,(EN (l.take i) t).acT))
 |0,m+1,t,_,_=>by
  rw[kc];simp only[Qz];rw[cK (by rw[ib];omega)];rfl
 |i+1,m+1,t,hi,hm=>by
  rw[kc];simp only[Qz];rw[cO (by rw[ib];omega),show((i+1:Nat):Int)-1=(i:Int) by omega,im,oO VW];simp only[cH,dW];rw[ed VW VW]
  have p:Ty.mk (l[i]).acS (l[i]).acT=l[i]:=by cases l[i];rfl
  have o:Tm.mk t.acS t.acV (Ty.mk t.cP.acS t.cP.acT) t.acT=t:=by cases t with|mk k j s a=>cases s;rfl
  have h:=RV n i m (.mk 2 0 l[i] [t]) VW VW;rw[o];refine h.trans ?_;rw[Y1,oO VW];simp only[EN,TJ,aaf,WZ,UA]
def zu(t:Tm)(l:List Ty)(b:l.length<=1000):uA t l=some (EN l t):=by
 unfold uA;simp only[c6];rw[ej,ed VW VW];have h:=RV b l.length FU t (gu _) (Vt VW);rw[h,cH,ZB];generalize EN l t=r;cases r with|mk k j s a=>cases s;rfl
def Cm(t a:Tm):rU t [a]=some (.mk 3 0 (.mk 0 []) [t,a]):=by cases t with|mk k j s l=>cases s;rfl
def Ka(t a b:Tm):rU t [a,b]=some (.mk 3 0 (.mk 0 []) [.mk 3 0 (.mk 0 []) [t,a],b]):=by cases t with|mk k j s l=>cases s;rfl
def Va:Tm:=EN [.nat] (.mk 6 0 .nat [.mk 4 0 (.mk 0 []) [],EN [.nat,.nat] (.mk 1 1 (.mk 0 []) []),.mk 1 0 (.mk 0 []) []])
def H8:uv=some Va:=by
 unfold uv mj qJ gy yL;simp only[vG,cH,zu _ _ (show[Ty.nat,Ty.nat].length<=1000 by decide),zu _ _ (show[Ty.nat].length<=1000 by decide)];rfl
def Y4:Tm:=EN [.nat,.nat] (.mk 6 0 .nat [.mk 1 1 (.mk 0 []) [],EN [.nat,.nat] (.mk 3 0 (.mk 0 []) [Va,.mk 1 0 (.mk 0 []) []]),.mk 1 0 (.mk 0 []) []])
def JC:xc=some Y4:=by
 unfold xc mj zC gy yL;simp only[H8,vG,cH,Cm,zu _ _ (show[Ty.nat,Ty.nat].length<=1000 by decide)];rfl
def Vv(a b:Tm):Fm:=.mk 1 (.mk 0 []) [.mk 3 0 (.mk 0 []) [.mk 3 0 (.mk 0 []) [Y4,.mk 5 0 (.mk 0 []) [a]],b],.mk 4 0 (.mk 0 []) []] []
def Hl(a b:Tm):uM a b=some (Vv a b):=by
 unfold uM qJ qz;simp only[JC,cH,Ka];rfl
def QN:∀x y:Fin 8,∃z:Fin 8,qP .u8 (x:Nat) (y:Nat)=(z:Nat)/\((z:Nat)%2=1↔(x:Nat)%2=1/\(y:Nat)%2=1):=aaK
def UY:∀x y:Fin 8,∃z:Fin 8,x0 .u8 (x:Nat) (y:Nat)=(z:Nat)/\((z:Nat)%2=1↔(x:Nat)%2=1\/(y:Nat)%2=1):=aaK
def Mk(b:Bool)(m:Int):Prop:=∃x:Fin 8,m=((x:Nat):Int)/\((x:Nat)%2=1↔b=true)
def Mk.and{a b:Bool}{x y:Int}(c:Mk a x)(hy:Mk b y):Mk (a&&b) (qP .u8 x y):=by
 obtain⟨x,rfl,h1⟩:=c;obtain⟨y,rfl,d⟩:=hy;obtain⟨z,e,f⟩:=QN x y;exact⟨z,e,by rw[f,h1,d,ft]⟩
def Mk.or{a b:Bool}{x y:Int}(c:Mk a x)(hy:Mk b y):Mk (a||b) (x0 .u8 x y):=by
 obtain⟨x,rfl,h1⟩:=c;obtain⟨y,rfl,d⟩:=hy;obtain⟨z,e,f⟩:=UY x y;exact⟨z,e,by rw[f,h1,d,r5]⟩
def Mk.one:Mk true 1:=⟨1,rfl,aaK⟩
def Mk.six:Mk false 6:=⟨6,rfl,aaK⟩
def Mk.four:Mk false 4:=⟨4,rfl,aaK⟩
def Mk.bit{b:Bool}{m:Int}(h:Mk b m):dw (qP .u8 m 1) 0=b:=by
 obtain⟨x,rfl,h1⟩:=h
 have key:∀x:Fin 8,dw (qP .u8 ((x:Nat):Int) 1) 0=decide ((x:Nat)%2=1):=aaK
 rw[key x];cases b with
 |false=>exact EY (λh=>by have:=h1.1 h;cases this)
 |true=>exact xa (h1.2 rfl)
def Fm.W'{a:Fm}(d:a.ok=true)(c:a.acS=2\/a.acS=3):∃p q,a=.mk a.acS (.mk 0 []) [] [p,q]/\p.ok=true/\q.ok=true:=by
 refine Fm.ow (p:=λa=>a.acS=2\/a.acS=3->∃p q,a=.mk a.acS (.mk 0 []) [] [p,q]/\p.ok=true/\q.ok=true) ?_ ?_ ?_ a d c
 ·intro a b _ _ h;rcases h with h|h<;>cases h
 ·intro k a b _ e f _ _ _;exact⟨a,b,rfl,e,f⟩
 ·intro k s a c _ _ _ h;have h:k=2\/k=3:=h;omega
def Fm.Zu{a:Fm}(d:a.ok=true)(e:a.acS=1):∃u v,a=.mk 1 (.mk 0 []) [u,v] []/\u.ok=true/\v.ok=true:=by
 refine Fm.ow (p:=λa=>a.acS=1->∃u v,a=.mk 1 (.mk 0 []) [u,v] []/\u.ok=true/\v.ok=true) ?_ ?_ ?_ a d e
 ·intro a b f g _;exact⟨a,b,rfl,f,g⟩
 ·intro k a b c _ _ _ _ h;have h:k=1:=h;omega
 ·intro k s a c _ _ _ h;have h:k=1:=h;omega
def Tm.Wq{a:Tm}(e:a.ok=true)(f:a.acS=3):∃c d,a=.mk 3 0 .z [c,d]/\c.ok=true/\d.ok=true:=by
 refine Tm.ow (p:=λa=>a.acS=3->∃c d,a=.mk 3 0 .z [c,d]/\c.ok=true/\d.ok=true) ?_ ?_ ?_ ?_ ?_ ?_ ?_ ?_ ?_ ?_ ?_ ?_ ?_ a e f
 case refine_3=>intro a b g i _;exact⟨a,b,rfl,g,i⟩
 all_goals(intros;rename_i h;cases h)
def Gd{k:Int}{s:Ty}{a:Fm}(Q:(Fm.mk k s [] [a]).ok=true)(hn:(Fm.mk k s [] [a]).acU<=1000000)(I:a.acY 1000000000000=true)(n:a.ok=true):∃b t q ok,tn (.mk k s [] [a])=some (b,t,q,ok)/\(ok=true->q.ok=true/\q.acU<a.acU/\q.acY 1000000000000=true):=by
 rw[Fm.cN] at hn;simp only[c_] at hn;have no:∃b t q ok,(some (false,(Tm.mk 0 0 (Ty.mk 0 []) []),(Fm.mk 0 (Ty.mk 0 []) [] []),false):Option (Bool×Tm×Fm×Bool))=some (b,t,q,ok)/\(ok=true->q.ok=true/\q.acU<a.acU/\q.acY 1000000000000=true):=⟨_,_,_,_,rfl,aa4⟩;unfold tn
 obtain⟨o,j,J,R⟩:∃o j,tg (dg (Fm.mk k s [] [a]).acS 4)=some (o,j)/\(j=2\/j=3):=by
  unfold tg
  split
  ·exact⟨_,_,rfl,.inr rfl⟩
  ·exact⟨_,_,rfl,.inl rfl⟩
 rw[J,cJ];simp only[c6]
 by_cases E:dw (Fm.mk k s [] [a]).acS o=true
 ·rw[cO E,cO trivial];exact no
 rw[cK E]
 by_cases F:dw (Fm.mk k s [] [a]).cP.acS 1=true
 ·rw[cO F,cO trivial];exact no
 rw[cK F];simp only[Fm.dd,dv,iB,cH]
 by_cases c3:dw a.acS j=true
 ·rw[cO c3,cO trivial];exact no
 rw[cK c3]
 have w:a.acS=2\/a.acS=3:=by
  have:a.acS=j:=by simpa[dw] using c3
  omega
 obtain⟨p,q,e,G,K⟩:=Fm.W' n w;have x:a.acT=[p,q]:=(congrArg Fm.acT e).trans rfl
 have L:a.acU=1+p.acU+q.acU:=by rw[e,Fm.cN];simp[c_];omega
 have l:p.acY 1000000000000=true/\q.acY 1000000000000=true:=by
  have f:=I;rw[e,Fm.er] at f;simp only[Nn,AX,HG,Ai,ft] at f;exact f
 have M:=p.dp;rw[x];simp only[dv,e9,iB,mc,cH]
 by_cases y:dw p.acS 1=true
 ·rw[cO y];exact no
 rw[cK y]
 have z:p.acS=1:=by simpa[dw] using y
 obtain⟨u,v,g,hu,S⟩:=Fm.Zu G z;have A:p.c9=[u,v]:=(congrArg Fm.c9 g).trans rfl
 have h:u.acY 1000000000000=true:=by
  have:=l.1;rw[g,Fm.er] at this;simp only[AX,ft] at this;exact this.1.1
 have N:p.acU=1+u.acU+v.acU:=by rw[g,Fm.cN];simp[c_];omega
 rw[A];simp only[dv,iB,cH]
 by_cases c5:dw u.acS 3=true
 ·rw[cO c5,cO trivial];exact no
 rw[cK c5]
 have B:u.acS=3:=by simpa[dw] using c5
 obtain⟨c,d,i,T,hd⟩:=Tm.Wq hu B;have C:u.acT=[c,d]:=(congrArg Tm.acT i).trans rfl
 have O:u.acU=1+c.acU+d.acU:=by rw[i,Tm.cN];simp[c_];omega
 have D:d.acY 1000000000000=true:=by
  rw[i,Tm.er] at h;simp only[AX,ft] at h;exact h.2.2.1
 rw[C];simp only[e9,mc,iB,cH];rw[AG 0 ⟨hd,D,VW⟩,cH];have yes:∃b t m ok,(some (dg (Fm.mk k s [] [a]).acS 4,d,q,true):Option (Bool×Tm×Fm×Bool))=some (b,t,m,ok)/\(ok=true->m.ok=true/\m.acU<a.acU/\m.acY 1000000000000=true):=⟨_,_,_,_,rfl,λ_=>⟨K,VW,l.2⟩⟩
 by_cases H:kZ (d.ac0 0:Int) 0=true
 ·rw[cO H,cO trivial];exact no
 rw[cK H];have hw:=p.iN G;obtain⟨r,P,_⟩:=Al FU p (Vv (.mk 1 0 (.mk 0 []) []) d) (by rw[dO];omega) VW;rw[show gy 0=some (Tm.mk 1 0 (.mk 0 []) [])from rfl,cH,Hl,cH,P,cH];cases r with
 |true=>rw[show qf true=false from rfl,cK aaK];exact yes|false=>rw[show qf false=true from rfl,cO rfl];exact no
def LC:∀(n:Nat) (f:Fm),f.acU<=n->f.acU<=1000000->f.ok=true->f.acY 1000000000000=true->∃m,ml n f=some m/\Mk f.has m:=by
 intro n
 induction n with
 |zero=>intro f h;have:=f.dp;omega
 |succ n u=>
  intro f hn e w c;refine Fm.ow (p:=λf=>f.acU<=n+1->f.acU<=1000000->f.ok=true->f.acY 1000000000000=true->∃m,ml (n+1) f=some m/\Mk f.has m) ?_ ?_ ?_ f w hn e w c
  ·intro a b _ _ _ _ _ _;rw[ml,cO abq];exact⟨6,rfl,by rw[Fm.has_eq];exact Mk.six⟩
  ·intro k a b x y A _ _ hn e _ c;rw[Fm.cN] at hn e;simp only[c_] at hn e;rw[Fm.er] at c;simp only[Nn,AX,HG,Ai,ft] at c;obtain⟨z,B,h1⟩:=u a VW VW y c.1;obtain⟨j,C,r⟩:=u b VW VW A c.2
   have d:k≠1:=VW
   have D:eu (dg k 2) true (dg k 3)=true:=by rcases x with rfl|rfl<;>rfl
   rw[ml,cK (show¬dg (Fm.mk k (.mk 0 []) [] [a,b]).acS 1=true by simpa[dg] using d)]
   have E:de [a,b] (dZ .i64 (di [a,b]) 1)=some b:=by rw[ed aa4 aa4];rfl
   simp only[Fm.dd,E,cH,C,c6];rw[cO (show eu (dg (Fm.mk k (.mk 0 []) [] [a,b]).acS 2) true (dg (Fm.mk k (.mk 0 []) [] [a,b]).acS 3)=true from D)];simp only[dv,iB,cH,B,Fm.dn];refine⟨_,rfl,?_⟩;rw[Fm.Oy,cK d];have l:=(h1.and r).and Mk.six;rw[ZE] at l;rcases x with rfl|rfl
   ·rw[show eu (dg 2 2) (x0 .u8 j z) j=x0 .u8 j z from rfl];have g:=(r.or h1).and Mk.one;rw[HG] at g;have:=l.or g;rw[aaw,Bool.or_comm] at this;simpa using this
   ·rw[show eu (dg 3 2) (x0 .u8 j z) j=j from rfl];have g:=r.and Mk.one;rw[HG] at g;have:=l.or g;rw[aaw] at this;simpa using this
  ·intro k s a x hs y _ hn e w c;have F:=e;rw[Fm.cN] at hn e;simp only[c_] at hn e;rw[Fm.er] at c;simp only[Nn,AX,HG,Ai] at c;obtain⟨z,B,h1⟩:=u a VW VW y c
   have d:k≠1:=VW
   have D:eu (dg k 2) true (dg k 3)=false:=by rcases x with rfl|rfl|rfl|rfl<;>rfl
   rw[ml,cK (show¬dg (Fm.mk k s [] [a]).acS 1=true by simpa[dg] using d)]
   have E:de [a] (dZ .i64 (di [a]) 1)=some a:=by rw[ed aa4 aa4];rfl
   simp only[Fm.dd,E,cH,B,c6];rw[cK (show¬eu (dg (Fm.mk k s [] [a]).acS 2) true (dg (Fm.mk k s [] [a]).acS 3)=true by rw[show eu (dg (Fm.mk k s [] [a]).acS 2) true (dg (Fm.mk k s [] [a]).acS 3)=false from D];decide)];obtain⟨b,t,q,ok,K,L⟩:=Gd w F c y;rw[K]
   have fin:∀(v:Int) (J:Mk (Fm.mk k s [] [a]).has v),∃m,(OK (some (b,t,q,ok)) λM N G H=>if H then(cI (ml n G) λo=>some (x0 .u8 (qP .u8 v 1) (qP .u8 o 4)))else(some (qP .u8 v 1)))=some m/\Mk (Fm.mk k s [] [a]).has m:=by
    intro v J;show∃m,(if ok then(cI (ml n q) λo=>some (x0 .u8 (qP .u8 v 1) (qP .u8 o 4)))else(some (qP .u8 v 1)))=some m/\Mk (Fm.mk k s [] [a]).has m;have l:=J.and Mk.one;rw[HG] at l;cases ok with
    |false=>exact⟨_,rfl,l⟩|true=>
     obtain⟨d1,d2,d3⟩:=L rfl;obtain⟨j,C,r⟩:=u q VW VW d1 d3;rw[cO rfl,C];refine⟨_,rfl,?_⟩;have g:=r.and Mk.four;rw[ZE] at g;have:=l.or g
     rwa [NS] at this
   have i:(Fm.mk k s [] [a]).has=if k=5 then true else a.has:=by
    rw[Fm.OE,cK d]
   by_cases I:k=5
   ·subst I;rw[cO abq];refine fin _ ?_;rw[i,cO rfl];have:=h1.or Mk.one
    rwa [Bool.or_true] at this
   ·rw[cK (show¬dg (Fm.mk k s [] [a]).acS 5=true by simpa[dg] using I)];refine fin _ ?_;rw[i,cK I];exact h1
def CU{f:Fm}(hw:f.wt<=1000000000)(b:f.acY 1000000000000=true):oz f=some (if f.err≠0 then(false,f.err)else(f.has,0)):=by
 unfold oz zO;rw[nB hw,cH]
 by_cases he:f.err=0
 ·obtain⟨a,hn⟩:=Fm.fS he;obtain⟨m,c,h1⟩:=LC FU f (by have:=dO;omega) VW a b;rw[cK (by rw[da];simpa using he),c,cH,h1.bit,cJ,cK (by simpa using he)]
 ·rw[cO (by rw[da];exact he),cJ,cO he]
def l9{α:Type}(m:List (Int×α)):List Int:=m.map (·.1)
def Bz{α:Type}(k:Int)(v:α):∀(m:List (Int×α)) (x:Int),x∈l9 (uX m k v)↔x=k\/x∈l9 m
 |[],x=>by simp[uX,l9]|p::m,x=>by
  unfold uX
  by_cases h:p.1=k
  ·rw[cO h];subst h;simp[l9]
  ·rw[cK h];have a:=Bz k v m x;simp only[l9,wb,j0] at a|-;rw[a];constructor
   ·rintro(h|h|h)
    ·exact .inr (.inl h)
    ·exact .inl h
    ·exact .inr (.inr h)
   ·rintro(h|h|h)
    ·exact .inr (.inl h)
    ·exact .inl h
    ·exact .inr (.inr h)
def A_{α:Type}(k:Int)(v:α):∀(m:List (Int×α)),(l9 m).Nodup->(l9 (uX m k v)).Nodup
 |[],_=>by simp[uX,l9]|p::m,h=>by
  have b:p.1∉l9 m/\(l9 m).Nodup:=XX.1 h;unfold uX
  by_cases a:p.1=k
  ·rw[cO a];subst a;exact h
  ·rw[cK a];refine XX.2 ⟨λhm=>?_,A_ k v m b.2⟩;rcases(Bz k v m p.1).1 hm with e|e
   ·exact a e
   ·exact b.1 e
def GV{α:Type}(k:Int)(v:α):∀(m:List (Int×α)),(uX m k v).length<=m.length+1
 |[]=>by simp[uX]|p::m=>by
  unfold uX
  split
  ·simp
  ·have:=GV k v m;simp only[kN];omega
def Lo(n:Int):∀l:List Int,(A3 n l).length=l.length+1
 |[]=>rfl|a::l=>by
  unfold A3
  split
  ·rfl
  ·simp[Lo n l]
def I1:∀(l acc:List Int),(yg acc l).length=acc.length+l.length
 |[],acc=>by simp[yg]|a::l,acc=>by rw[yg,I1 l,Lo];simp only[kN];omega
def Ih:∀(n:Nat) (t:Tm) (d:Int) (m:List (Int×Bool)),t.acU<=n->t.acU<=100000000->0<=d->d+t.acU<=1000000000->t.acY 4611686018427387904=true->(l9 m).Nodup->∃p,pB n t d m=some p/\(l9 p).Nodup/\p.length<=m.length+t.acU/\∀x,x∈l9 p↔x∈l9 m\/(0<=x/\0<t.ac0 (x+d)):=by
 intro n
 induction n with
 |zero=>intro t d m h;have:=t.dp;omega
 |succ n I=>
  intro t d m hn u J hd B hm;cases t with
  |mk k i s l=>
   have C:=kf k;rw[Tm.cN] at hn u hd;have hlen:=gk Tm.acU l λt _=>t.dp;rw[Tm.er,ft,oI,j7] at B
   have acT:∀(F:Int->Tm->List (Int×Bool)->Option (eL (List (Int×Bool)) (List (Int×Bool)))),(∀j x v,F j x v=cI (kC (Tm.mk k i s l)) λb=>cI (pB n x (dF .i64 d b) v) λr=>some (.next r))->∀(as:List Tm) (j:Nat) (v:List (Int×Bool)),(∀a∈as,a∈l)->(l9 v).Nodup->∃e,dN F as j v=some (.inl e)/\(l9 e).Nodup/\e.length<=v.length+c_ Tm.acU as/\∀x,x∈l9 e↔x∈l9 v\/(0<=x/\0<c_ (Tm.ac0 (x+d+eU k)) as):=by
    intro F hF as
    induction as with
    |nil=>intro j v _ w;exact⟨v,rfl,w,by simp[c_],λx=>by simp[c_]⟩|cons a as y=>
     intro j v has w;have D:=has a aa4;have K:=dh Tm.acU D;have z:=B.2 a D;obtain⟨v1,h1,f,E,g⟩:=I a (d+eU k) v VW VW VW VW z w;obtain⟨v2,g1,g2,g3,g4⟩:=y (j+1) v1 (λb u=>has b (by simp[u])) f;refine⟨v2,?_,g2,by simp only[c_];omega,λx=>?_⟩
     ·rw[dJ,hF,nu];simp only[cH,Tm.dn];rw[dI VW VW,h1];simp only[cH,dW];exact g1
     ·rw[g4,g];simp only[c_];rw[<-Int.add_assoc];constructor
      ·rintro((h|h)|h)
       ·exact .inl h
       ·exact .inr ⟨h.1,VW⟩
       ·exact .inr ⟨h.1,VW⟩
      ·rintro(h|⟨h,q⟩)
       ·exact .inl (.inl h)
       ·by_cases L:0<a.ac0 (x+d+eU k)
        ·exact .inl (.inr ⟨h,L⟩)
        ·exact .inr ⟨h,VW⟩
   unfold pB;simp only[c6,Tm.dd,db (l:=l) VW,cX,Tm.dn,Tm.eP];rw[Tm.cN]
   by_cases o:k=1/\d<=i
   ·have c:eu (dg k 1) (sM i d) false=true:=by simp[eu,o.1,o.2]
    simp only[c,if_true];rw[ed VW VW];obtain⟨e,h1,f,E,g⟩:=acT _ (λ_ _ _=>rfl) l 0 (uX m (i-d) true) (λa h=>h) (A_ _ _ _ hm);refine⟨e,by rw[h1];rfl,f,by have:=GV (i-d) true m;omega,λx=>?_⟩;rw[g,Bz,Tm.fu];constructor
    ·rintro((h|h)|h)
     ·exact .inr ⟨VW,by rw[cO ⟨o.1,VW⟩];omega⟩
     ·exact .inl h
     ·exact .inr ⟨h.1,VW⟩
    ·rintro(h|⟨h,q⟩)
     ·exact .inl (.inr h)
     ·by_cases G:x=i-d
      ·exact .inl (.inl G)
      ·rw[cK (λH=>G VW)] at q;exact .inr ⟨h,VW⟩
   ·have c:eu (dg k 1) (sM i d) false=false:=by
     unfold eu
     split
     ·rename_i M
      have A:k=1:=by simpa using M
      simp only[sM,UC]
      exactλh=>o ⟨A,h⟩
     ·rfl
    simp only[c,oZ,kY];obtain⟨e,h1,f,E,g⟩:=acT _ (λ_ _ _=>rfl) l 0 m (λa h=>h) hm;refine⟨e,by rw[h1];rfl,f,VW,λx=>?_⟩;rw[g,Tm.fu];constructor
    ·rintro(h|h)
     ·exact .inl h
     ·exact .inr ⟨h.1,VW⟩
    ·rintro(h|⟨h,q⟩)
     ·exact .inl h
     ·rw[cK (λH=>o ⟨H.1,VW⟩)] at q;exact .inr ⟨h,VW⟩
def HR{t:Tm}(hw:t.wt<=1000000000)(d:t.acY 4611686018427387904=true)(he:t.err=0):∃l,ve t=some (l,0)/\EC l/\l.length<=4096/\∀x,x∈l↔0<=x/\0<t.ac0 x:=by
 have hn:t.acU<=4096:=by
  unfold Tm.err at he
  split at he
  ·split at he
   ·cases he
   ·omega
  ·cases he
 obtain⟨m,h1,c,e,f⟩:=Ih FU t 0 [] (by rw[dO];omega) VW VW VW d (by simp[l9])
 have a:(m.map (·.1)).Nodup:=c
 have b:m.length<=4096:=by simpa using uJ e (by simpa using hn)
 refine⟨yg [] (l9 m),?_,zT _ [] .nil c aa4,?_,λx=>?_⟩
 ·unfold ve;rw[lL hw,he];simp only[cH];rw[cK aaK,h1];simp only[cH];unfold pS
  rw[db VW,cX,show wG (m.map (·.1))=true from by simp[wG,a],cX]
  rfl
 ·rw[I1];simp[l9,b]
 ·rw[zQ,f];simp[l9]
def Fb{n:Int}(h1:0<=n)(a:n<4294967296):IntKind.u32.wrap n=n:=by
 unfold IntKind.wrap;simp only[show IntKind.u32.bits=32 from rfl,show IntKind.u32.signed=false from rfl,U5,oZ,kY,show((2:Int)^32)=4294967296 from rfl];omega
def J9(a:Nat):BitVec.ofInt 32 (a:Int)=BitVec.ofNat 32 a:=aa4
def Jo{a b:Nat}(d:a<4294967296)(e:b<4294967296):x0 .u32 (a:Int) (b:Int)=((a|||b:Nat):Int):=by
 unfold x0;have c:a|||b<2^32:=adA VW VW;rw[show IntKind.u32.bits=32 from rfl,J9,J9,BitVec.toNat_or,adw,adw,Tu VW,Tu VW];exact Fb VW VW
def Lc{a b:Nat}(d:a<4294967296)(e:b<4294967296):qP .u32 (a:Int) (b:Int)=((a&&&b:Nat):Int):=by
 unfold qP;have c:a&&&b<2^32:=W3 _ VW;rw[show IntKind.u32.bits=32 from rfl,J9,J9,UN,adw,adw,Tu VW,Tu VW];exact Fb VW VW
def R8{k:Nat}(b:k<32):S7 .u32 1 (k:Int)=((2^k:Nat):Int):=by
 unfold S7;rw[show IntKind.u32.bits=32 from rfl,AN,GS VW,Int.one_mul];have a:2^k<2^32:=adv aaK b;rw[show((2:Int)^k)=((2^k:Nat):Int) by push_cast;rfl];exact Fb (Qe _) (Int.ofNat_lt.2 (adK a rfl))
def SM{a k:Nat}(b:k<=32):Su .u32 (a:Int) (k:Int)=((a/2^k:Nat):Int):=by
 unfold Su;rw[show IntKind.u32.bits=32 from rfl,AN,GS b];rw[show((2:Int)^k)=((2^k:Nat):Int) by push_cast;rfl];rw[adU _ (Qe _)];rfl
structure Us (l:List Int) (m:Nat):Prop where
 lt:m<4294967296
 pos:∀x∈l,0<=x
 Yq:EC l
 mem:∀i:Nat,(i:Int)∈l↔m.testBit i=true
def Us.nil:Us [] 0:=⟨aaK,aa4,by first|exact .nil|trivial|simp[EC],aa4⟩
def C6{i b:Int}{m:Nat}(hm:m<4294967296)(g:0<=i)(h1:i<=1000000000000)(l:0<=b)(o:b<=1000000000)(p:i-b<32):∃c:Nat,mX i b (m:Int)=some (c:Int)/\c<4294967296/\∀j:Nat,c.testBit j=true↔m.testBit j=true\/i=j+b:=by
 unfold mX
 by_cases h:b<=i
 ·rw[cO (by rw[ib];exact h),ed VW VW,show Hn (i-b)=true by simp[Hn];omega,cX];obtain⟨k,f⟩:∃k:Nat,i-b=(k:Int):=⟨(i-b).toNat,VW⟩
  have a:k<32:=VW
  have d:2^k<4294967296:=adK (adv aaK a) rfl;rw[f,R8 a,Jo hm d];refine⟨m|||2^k,rfl,adA (n:=32) VW VW,λj=>?_⟩;rw[adz,r5,adu,aan];constructor
  ·rintro(h|h)
   ·exact .inl h
   ·exact .inr VW
  ·rintro(h|h)
   ·exact .inl h
   ·exact .inr VW
 ·rw[cK (by rw[ib];exact h)];exact⟨m,rfl,hm,λj=>⟨.inl,λe=>e.elim id λe=>absurd e VW⟩⟩
def FV:∀(n:Nat) (t:Tm) (b:Int) (m:Nat),t.acU<=n->t.acU<=1000000->t.ok=true->t.acY 1000000000000=true->0<=b->b+t.acU<=1000000000->m<4294967296->(∀j:Int,32<=j->t.ac0 (j+b)=0)->∃g:Nat,iO n t b (λ(s:Int) (o:Int) (p:Int)=>mX o p s) (m:Int)=some (g:Int)/\g<4294967296/\∀j:Nat,g.testBit j=true↔m.testBit j=true\/0<t.ac0 (j+b):=by
 intro n
 induction n with
 |zero=>intro t b m h;have:=t.dp;omega
 |succ n K=>
  intro t b m hn L M r N w hm c;cases t with
  |mk k i s l=>
   rw[Tm.cN] at hn L w;have hlen:=Tm.ek l;have hi:=Tm.kT M;rw[Tm.er,ft,aan,j7] at r;have O:=kf k;rw[iO];simp only[c6]
   have x:∀j:Int,32<=j->∀t∈l,t.ac0 (j+(b+eU k))=0:=by
    intro j y t P;have h1:=c j y;rw[Tm.fu] at h1;have U:=dh (Tm.ac0 (j+b+eU k)) P;rw[show j+(b+eU k)=j+b+eU k by omega];omega
   have loop:∀(ts:List Tm) (j:Nat) (v:Nat),(∀t∈ts,t∈l)->v<4294967296->∃z:Nat,dN (λ(Q:Int) (A:Tm)=>(λ(v28:Int)=>
      cI (iO n A (b+eU k) (λ(s:Int) (o:Int) (p:Int)=>mX o p s) v28) λB=>
      some ((.next B):eL Int Int))) ts j (v:Int)=some (.inl (z:Int))/\z<4294967296/\∀q:Nat,z.testBit q=true↔v.testBit q=true\/0<c_ (Tm.ac0 (q+b+eU k)) ts:=by
    intro ts
    induction ts with
    |nil=>intro j v _ C;exact⟨v,aa4,C,λq=>by simp[c_]⟩|cons t ts D=>
     intro j v d C;have a:=d t aa4;have R:=dh Tm.acU a;obtain⟨v1,E,F,G⟩:=K t (b+eU k) v VW VW (hi.2.2.2.1 t a) (r.2 t a) VW VW C (λj y=>x j y t a);obtain⟨v2,f1,f2,f3⟩:=D (j+1) v1 (λu hu=>d u (by simp[hu])) F;refine⟨v2,?_,f2,λq=>?_⟩
     ·rw[dJ,E];simp only[cH,dW];exact f1
     ·rw[f3,G];simp only[c_];rw[show(q:Int)+(b+eU k)=q+b+eU k by omega];constructor
      ·rintro((h|h)|h)
       ·exact .inl h
       ·exact .inr VW
       ·exact .inr VW
      ·rintro(h|h)
       ·exact .inl (.inl h)
       ·by_cases S:0<t.ac0 (q+b+eU k)
        ·exact .inl (.inr S)
        ·exact .inr VW
   by_cases H:k=1
   ·subst H;rw[cO (show dg (Tm.mk 1 i s l).acS 1=true from rfl)];simp only[Tm.dd,Tm.dn,Tm.eP]
    have I:i-b<32:=by
     rcases Int.lt_or_le (i-b) 32 with h|h
     ·exact h
     ·have h1:=c (i-b) h;rw[Tm.fu,cO ⟨rfl,VW⟩] at h1;omega
    obtain⟨T,E,F,G⟩:=C6 hm hi.2.1 r.1 N VW I;rw[E,cH,wC 1 b VW VW,db VW,cX];obtain⟨J,f1,f2,f3⟩:=loop l 0 T (λt h=>h) F;refine⟨J,?_,f2,λq=>?_⟩
    ·have e:=f1;rw[show((0:Nat))=0 from rfl] at e;rw[e,cH];rfl
    ·rw[f3,G,Tm.fu]
     by_cases f:i=q+b
     ·rw[cO ⟨rfl,f⟩];exact⟨λ_=>.inr VW,λ_=>.inl (.inr f)⟩
     ·rw[cK (λh=>f h.2),r_];exact⟨λh=>h.elim (λh=>h.elim .inl λh=>absurd h f) .inr,λh=>h.elim (λh=>.inl (.inl h)) .inr⟩
   ·rw[cK (show¬dg (Tm.mk k i s l).acS 1=true by simpa[dg] using H)];simp only[Tm.dd,Tm.dn,Tm.eP];rw[wC k b VW VW,db VW,cX];obtain⟨J,f1,f2,f3⟩:=loop l 0 m (λt h=>h) hm;refine⟨J,by rw[f1,cH];rfl,f2,λq=>?_⟩;rw[f3,Tm.fu,cK (λh=>H h.1),r_]
def Uc{t:Tm}(he:t.err=0)(b:t.acY 1000000000000=true)(c:∀j:Int,32<=j->t.ac0 j=0):∃(l:List Int) (m:Nat),jj t=some (m:Int)/\jA t=some l/\Us l m/\∀x,x∈l↔0<=x/\0<t.ac0 x:=by
 obtain⟨a,hn⟩:=Tm.fS he;have hw:=t.iN a;obtain⟨m,d,e,f⟩:=FV FU t 0 0 (by have:=dO;omega) VW a b VW VW aaK (λj g=>by rw[ym];exact c j g);obtain⟨l,g1,g2,_,g4⟩:=HR (t:=t) VW (Tm.lT t VW b) he;refine⟨l,m,?_,by unfold jA;rw[g1];rfl,⟨e,λx h=>((g4 x).1 h).1,g2,λi=>?_⟩,g4⟩
 ·unfold jj re;rw[show(0:Int)=((0:Nat):Int)from rfl] at*;rw[d];rfl
 ·rw[g4,f,ym];simp
def sK(v:List (Int×Bool))(l:List Int):List (Int×Bool):=l.foldl (λv x=>uX v x true) v
def xk:∀(l:List Int) (v:List (Int×Bool)),(l9 v).Nodup->(l9 (sK v l)).Nodup/\(sK v l).length<=v.length+l.length/\∀x,x∈l9 (sK v l)↔x∈l9 v\/x∈l
 |[],v,h=>⟨h,by simp[sK],λx=>by simp[sK]⟩|y::l,v,h=>by
  obtain⟨h1,b,a⟩:=xk l (uX v y true) (A_ y true v h);refine⟨h1,?_,λx=>?_⟩
  ·have:=GV y true v;show(sK (uX v y true) l).length<=_;rw[kN];omega
  ·show x∈l9 (sK (uX v y true) l)↔_;rw[a,Bz,j0];constructor
   ·rintro((h|h)|h)
    ·exact .inr (.inl h)
    ·exact .inl h
    ·exact .inr (.inr h)
   ·rintro(h|h|h)
    ·exact .inl (.inr h)
    ·exact .inl (.inl h)
    ·exact .inr h
def FN{ρ:Type}:∀(l:List Int) (j:Nat) (v:List (Int×Bool)),dN (λ(c:Int) (a:Int)=>(λ(b:(List (Int×Bool)))=>some ((.next (uX b a true)):eL (List (Int×Bool)) ρ))) l j v=some (.inl (sK v l))
 |[],j,v=>by rw[om];rfl|x::l,j,v=>by
  rw[dJ];simp only[cH,dW];exact FN l (j+1) (uX v x true)
def FO{a b:List Int}(e:a.length<=1000000)(f:b.length<=1000000):∃l,fj a b=some l/\EC l/\∀x,x∈l↔x∈a\/x∈b:=by
 obtain⟨h1,c,d⟩:=xk a [] (by simp[l9]);obtain⟨g1,g2,g3⟩:=xk b (sK [] a) h1;refine⟨yg [] (l9 (sK (sK [] a) b)),?_,zT _ _ .nil g1 aa4,λx=>?_⟩
 ·unfold fj;simp only[c6];rw[db VW,cX];rw[FN a 0 [],cH,cU,db VW,cX,FN b 0 _,cH,cU];unfold pS;simp only[vo] at c;rw[db VW,cX,show wG (List.map (λx=>x.1) (sK (sK [] a) b))=true from xa g1,cX];rfl
 ·rw[zQ,g3,d];simp[l9]
def Us.union{a b:List Int}{m n:Nat}(c:Us a m)(d:Us b n)(e:a.length<=1000000)(f:b.length<=1000000):∃l,fj a b=some l/\x0 .u32 (m:Int) (n:Int)=((m|||n:Nat):Int)/\Us l (m|||n)/\∀x,x∈l↔x∈a\/x∈b:=by
 obtain⟨l,j,k,g⟩:=FO e f;refine⟨l,j,Jo c.lt d.lt,⟨adA (n:=32) (by have:=c.lt;omega) (by have:=d.lt;omega),λx o=>?_,k,λi=>?_⟩,g⟩
 ·rcases(g x).1 o with h|h
  ·exact c.pos x h
  ·exact d.pos x h
 ·rw[g,c.mem,d.mem,adz,r5]
def Us.bound{l:List Int}{m:Nat}(h:Us l m):∀x∈l,x<32:=by
 intro x a;have b:=h.pos x a;obtain⟨k,rfl⟩:=XN b;have:=(h.mem k).1 a;rcases qu k 32 with h1|h1
 ·omega
 ·exfalso;have c:m<2^k:=FE h.lt (uJ (by decide:4294967296<=2^32) (adZ aaK h1));rw[ad1 c] at this;cases this
def w7(k:Int)(l:List Int):List Int:=(l.filter λx=>decide (k<=x)).map λx=>x-k
def GB{k:Int}(e:0<=k)(c:k<=1000):∀(l:List Int) (j:Nat) (v:List Int),(∀x∈l,0<=x/\x<32)->v.length+l.length<=1000000->dN (λ(f:Int) (a:Int)=>(λ(b:List Int)=>
   if(sM a k) then(
   fD (eJ b [(dZ .i64 a k)])<|some ((.next (fa b [(dZ .i64 a k)])):eL (List Int) (List Int)))
   else(some (.next b)))) l j v=some (.inl (v++w7 k l))
 |[],j,v,_,_=>by simp[w7]|x::l,j,v,h,g=>by
  simp only[kN] at g;have i:=h x aa4;rw[dJ]
  by_cases d:k<=x
  ·rw[cO (by rw[ib];exact d),dS aa_,cX,ed VW VW];simp only[cH,dW];rw[fx,GB e c l (j+1) _ (λy hy=>h y (by simp[hy])) aa_];simp[w7,d]
  ·rw[cK (by rw[ib];exact d)];simp only[cH,dW];rw[GB e c l (j+1) v (λy hy=>h y (by simp[hy])) VW];simp[w7,d]
def CY{l:List Int}{m:Nat}(h:Us l m)(d:l.length<=1000000){k:Int}(c:0<=k)(a:k<=1000):fm l k=some (w7 k l):=by
 unfold fm;simp only[c6];rw[db VW,cX,GB c a l 0 [] (λx b=>⟨h.pos x b,h.bound x b⟩) aa_,cH,cU,mR]
def Fp(k:Int)(l:List Int)(x:Int):x∈w7 k l↔x+k∈l/\0<=x:=by
 unfold w7;simp only[l8,aah,aan];constructor
 ·rintro⟨y,⟨h1,a⟩,rfl⟩;exact⟨by rw[adV];exact h1,VW⟩
 ·rintro⟨h1,a⟩;exact⟨x+k,⟨h1,VW⟩,VW⟩
def LH(k:Int):∀{l:List Int},EC l->EC (w7 k l)
 |[],_=>.nil|a::l,.cons h1 f=>by
  have c:=LH k f
  by_cases d:k<=a
  ·have e:w7 k (a::l)=(a-k)::w7 k l:=by simp[w7,d]
   rw[e];refine .cons (λb g=>?_) c;have:=h1 _ ((Fp k l b).1 g).1;omega
  ·have e:w7 k (a::l)=w7 k l:=by simp[w7,d]
   rw[e];exact c
def Us.out{l:List Int}{m:Nat}(h:Us l m)(a:l.length<=1000000){k:Nat}(b:k<=32):fm l (k:Int)=some (w7 k l)/\eg (m:Int) (k:Int)=some ((m/2^k:Nat):Int)/\Us (w7 k l) (m/2^k):=by
 refine⟨CY h a VW VW,?_,⟨adM (Nat.div_le_self _ _) h.lt,λx c=>((Fp _ _ _).1 c).2,LH _ h.Yq,λi=>?_⟩⟩
 ·unfold eg;rw[show Hn (k:Int)=true by simp[Hn],cX,SM b]
 ·rw[Fp,show(i:Int)+(k:Int)=((i+k:Nat):Int) by omega,h.mem]
  have e:(m/2^k).testBit i=m.testBit (i+k):=by rw[adY]
  rw[e];exact⟨λh=>h.1,λh=>⟨h,VW⟩⟩
def Tm.up_add(f b c:Int)(j:0<=b):∀(t:Tm) (d:Int),(t.up (f+d) b).up (f+d) c=t.up (f+d) (b+c):=by
 intro t
 induction t using Tm.ind with
 |h k i s l e=>
  intro d;rw[Tm.kJ,Tm.kJ,Tm.kJ]
  congr 1
  ·by_cases a:k=1/\f+d<=i
   ·rw[cO a,cO ⟨a.1,VW⟩];omega
   ·rw[cK a,cK a,cK a]
  ·rw[RE]
   exact vW λx g=>by
    have:=e x g (d+eU k);rw[show f+(d+eU k)=f+d+eU k by omega] at this;exact this
def Fm.up_add(f b c:Int)(a:0<=b):∀(t:Fm) (d:Int),(t.up (f+d) b).up (f+d) c=t.up (f+d) (b+c):=by
 intro t
 induction t using Fm.ind with
 |h k s ts l e=>
  intro d;rw[Fm.kJ,Fm.kJ,Fm.kJ]
  congr 1
  ·rw[RE];exact vW λx _=>Tm.up_add f b c a x d
  ·rw[RE]
   exact vW λx g=>by
    have:=e x g (d+qB k);rw[show f+(d+qB k)=f+d+qB k by omega] at this;exact this
def Fm.Wx(t:Fm){b c:Int}(a:0<=b):(t.up 0 b).up 0 c=t.up 0 (b+c):=by
 have:=Fm.up_add 0 b c a t 0
 rwa [ym] at this
def Fm.LK(t:Fm):∀f,t.up f 0=t:=by
 induction t using Fm.ind with
 |h k s ts l a=>
  intro f;rw[Fm.kJ]
  congr 1
  ·rw[vW (g:=id) λx _=>Tm.xR x _];simp
  ·rw[vW (g:=id) λx b=>a x b _];simp
def Fm.xR(t:Fm):t.up 0 0=t:=Fm.LK t 0
structure Hy (f:Fm):Prop where
 err:f.err=0
 acY:f.acY 536870912=true
structure Ul (p:cQ) (c:cS):Prop where
 acW:p.acW=c.acW.map sg
 vars:p.eK.vars=(c.acW.length:Int)
 acZ:p.eK.acZ=(c.acZ.length:Int)
 ctx:jd c.acW
 nv:c.acW.length<=16
 nh:c.acZ.length<=16
 known:p.known.length=c.acZ.length
 hyp:∀(i:Nat) (x:cZ) (h:Fm),p.known[i]?=some x->c.acZ[i]?=some h->Hy x.cR/\0<=x.vars/\x.vars<=c.acW.length/\h=x.cR.up 0 (c.acW.length-x.vars)
def Ul.with{p:cQ}{c:cS}(h:Ul p c){f:Fm}(l:Hy f)(hn:c.acZ.length+1<=16):∃e b,eI p f=some e/\eZ c f=some b/\Ul e b/\b.lemmas=c.lemmas/\b.acW=c.acW/\b.acZ=c.acZ++[f]:=by
 unfold eI eZ;have j:=h.known;rw[dS aa_,cX,dS aa_,cX];refine⟨_,_,rfl,rfl,⟨h.acW,h.vars,?_,h.ctx,h.nv,?_,?_,?_⟩,rfl,rfl,by simp only[fx]⟩
 ·show dF .i64 p.eK.acZ 1=_;rw[h.acZ,dI (by have:=h.nh;omega) (by have:=h.nh;omega),fx];simp
 ·show(fa c.acZ [f]).length<=16;rw[fx];simpa using hn
 ·show(fa p.known _).length=(fa c.acZ [f]).length;simp[fx,j]
 ·intro i x g h1 a
  have h1:(p.known++[cZ.mk f p.eK.vars])[i]?=some x:=by rw[<-fx];exact h1
  have a:(c.acZ++[f])[i]?=some g:=by rw[<-fx];exact a
  rcases qu i c.acZ.length with d|hge
  ·rw[p4 VW] at h1;rw[p4 d] at a;exact h.hyp i x g h1 a
  ·have hi:i=c.acZ.length:=by
    have:=(kj.1 a).1;simp at this;omega
   subst hi;rw[wc VW,j,SZ] at h1;rw[wc VW,SZ] at a;have m:cZ.mk f p.eK.vars=x:=gh h1;have n:f=g:=gh a;subst m;subst n;have k:=h.vars;refine⟨l,by show 0<=p.eK.vars;omega,by show p.eK.vars<=_;exact Int.le_of_eq k,?_⟩;show f=f.up 0 (c.acW.length-p.eK.vars);rw[k,adN];exact(Fm.xR f).symm
def jd.append{g l:List Ty}(h:jd g)(a:jd l):jd (g++l):=λs hs=>(qA.1 hs).elim (h s) (a s)
def DK{g l:List Ty}(a:jd l)(b:g.length+l.length<=900000):e_ (g.map sg) l=some ((g++l).map sg):=by
 unfold e_;rw[vb a VW,cH,dS aa_,cX,fx,Ah]
def Ul.below{p:cQ}{c:cS}(h:Ul p c){l:List Ty}(e:jd l)(hn:c.acW.length+l.length<=16)(m:∀f∈c.acZ,f.err=0/\f.acY 1000000000=true):∃k b,eC p l=some k/\eh c l=some b/\Ul k b/\b.lemmas=c.lemmas/\b.acW=c.acW++l/\b.acZ=c.acZ.map (Fm.up 0 l.length):=by
 have n:=h.nh
 have o:eC p l=some (cQ.mk (dA.mk (p.eK.vars+l.length) p.eK.acZ) ((c.acW++l).map sg) p.known):=by
  unfold eC;rw[h.acW,DK e VW,cH];have:=h.vars;rw[ej,dI VW VW]
 have q:eh c l=some (cS.mk c.lemmas (c.acW++l) (c.acZ.map (Fm.up 0 l.length))):=by
  unfold eh;simp only[c6]
  rw[dS VW,cX,db VW,cX,hS (Fm.up 0 l.length) c.acZ 0 [] aa_ (λj x v r s=>by
   obtain⟨q1,t⟩:=m x r;obtain⟨u,w⟩:=Fm.fS q1
   rw[ej,sX FU x 0 l.length (by rw[dO];omega) VW VW VW VW VW (Fm.lT x VW t),cH,dS (by simpa using s),cX,fx])]
  rw[cH,cU,fx,mR]
 refine⟨_,_,o,q,⟨rfl,?_,?_,h.ctx.append e,?_,?_,?_,?_⟩,rfl,rfl,rfl⟩
 ·show p.eK.vars+l.length=((c.acW++l).length:Int);rw[h.vars];simp
 ·show p.eK.acZ=((c.acZ.map (Fm.up 0 l.length)).length:Int);rw[h.acZ];simp
 ·show(c.acW++l).length<=16;simpa using hn
 ·show(c.acZ.map (Fm.up 0 l.length)).length<=16;simpa using h.nh
 ·show p.known.length=(c.acZ.map (Fm.up 0 l.length)).length;simpa using h.known
 ·intro i x g h1 a;have h1:p.known[i]?=some x:=h1;have a:(c.acZ.map (Fm.up 0 l.length))[i]?=some g:=a;rw[tM] at a;cases d:c.acZ[i]?with
  |none=>rw[d] at a;cases a
  |some g0=>
   rw[d] at a;have a:g0.up 0 l.length=g:=gh a;obtain⟨a1,a2,a3,a4⟩:=h.hyp i x g0 h1 d;refine⟨a1,a2,?_,?_⟩
   ·show x.vars<=((c.acW++l).length:Int);simp;omega
   ·show g=x.cR.up 0 (((c.acW++l).length:Int)-x.vars);rw[<-a,a4,Fm.Wx _ VW]
    congr 1
    simp;omega
def Ul.MY{p:cQ}{c:cS}(h:Ul p c){i:Int}(hi:0<=i):if(c.acZ.length:Int)<=i then j8 p i=some (.mk 0 (.mk 0 []) [] [],false)else∃f,de c.acZ (dZ .i64 (dZ .i64 (di c.acZ) 1) i)=some f/\j8 p i=some (f,true):=by
 have g:=h.nh;have j:=h.known;unfold j8;rw[ej,j]
 split
 ·rename_i d;rw[cO (by rw[ib];exact d)]
 ·rename_i d;rw[cK (by rw[ib];exact d),ej,ed (a:=(c.acZ.length:Int)) VW VW,ed VW VW]
  have b:(((c.acZ.length:Int)-1-i).toNat)<c.acZ.length:=VW
  have e:(c.acZ.length:Int)-1-i=((((c.acZ.length:Int)-1-i).toNat:Nat):Int):=VW
  rw[e,im,im,oO b,oO VW];obtain⟨a1,a2,a3,a4⟩:=h.hyp _ _ _ (oO VW) (oO b);refine⟨_,rfl,?_⟩;obtain⟨k,m⟩:=Fm.fS a1.err;have l:=h.nv;rw[cH,h.vars,ed VW VW,tG k VW (Fm.lT _ VW a1.acY) VW VW VW VW,cH,<-a4]
def TS{t:Tm}(m:t.ok=true):u_ t=some t.root:=by
 unfold u_;simp only[c6];cases t with
 |mk k i s l=>
  show(if(dg k 3) then(cI (de l 0) λg=>some (dg g.acS 2))else(
   if(dg k 6) then(cI (de l 2) λe=>if(dg e.acS 4) then some true else some (dg e.acS 5))else(
   if(dg k 9) then(cI (de l 2) λf=>if(dg f.acS 7) then some true else some (dg f.acS 8))else(
   if(eu (dg k 11) true (dg k 12)) then(cI (de l 0) λh=>some (dg h.acS 10))else some false))))=_
  unfold Tm.root
  by_cases n:k=3
  ·subst n;obtain⟨a,b,rfl⟩:=Tm.ok3 m;rw[cO aaK];simp[dv,Tm.kd,tL]
  ·rw[cK (by simpa using n)]
   by_cases o:k=6
   ·subst o;obtain⟨a,b,c,rfl⟩:=Tm.ok6 m;rw[cO aaK];simp only[il,mc,iB,cH,Tm.kd,eW]
    by_cases j:c.acS=4
    ·simp[j]
    ·simp[j,tL]<;>exact Uh.2 Iff.rfl
   ·rw[cK (by simpa using o)]
    by_cases p:k=9
    ·subst p;obtain⟨a,b,c,rfl⟩:=Tm.ok9 m;rw[cO aaK];simp only[il,mc,iB,cH,Tm.kd,eW]
     by_cases j:c.acS=7
     ·simp[j]
     ·simp[j,tL]<;>exact Uh.2 Iff.rfl
    ·rw[cK (by simpa using p)]
     by_cases d:k=11\/k=12
     ·obtain⟨a,rfl⟩:=Tm.V4 d m;rw[cO (by rcases d with rfl|rfl<;>rfl)];simp only[dv,iB,cH,Tm.kd];rcases d with rfl|rfl<;>simp[tL]<;>exact Uh.2 Iff.rfl
     ·rw[cK (by simp only[lN,r5,eW];exact d)];simp only[not_or] at d;simp[n,o,p,d.1,d.2]
def yt{t:Tm}(h:t.acU<=1000000000):eM FU t=some (t.acU:Int):=nr FU t (by rw[dO];exact h) h
def PV{t:Tm}(o:t.ok=true)(hn:t.acU<=8192)(f:t.root=true):rK t=some ((t.eQ.acU:Int)-(t.acU:Int)):=by
 have j:=Tm.IC o f;have p:=hn;unfold rK;rw[yt VW];simp only[cH];cases j with
 |app=>
  rename_i i s c d b a;have l:=Tm.DI (Tm.DI o (.mk 2 c d [b]) aa4) b aa4;rw[Tm.cN] at hn;simp only[c_,Tm.cN] at hn;rw[cO abq];simp only[Tm.dd,dv,e9,iB,mc,cH];rw[yt (t:=b) VW,yt (t:=a) VW,yK FU b 0 (by rw[dO];omega) VW VW VW];simp only[cH];have q:=Tm.gW b 0;have hmul:b.ac0 0*a.acU<=8192*8192:=Ts VW VW;have r:=Tm.q_ a b 0 l;have u:=a.dp
  have e:(Tm.mk 3 i s [.mk 2 c d [b],a]).eQ=Tm.nj 0 b a:=by simp[Tm.eQ]
  rw[e]
  have hint:(b.ac0 0:Int)*((a.acU:Int)-1)=((b.ac0 0*a.acU:Nat):Int)-(b.ac0 0:Int):=by rw[Xy,yn];simp
  rw[ed (a:=(a.acU:Int)) VW VW,zJ (by rw[hint];omega) (by rw[hint];omega),hint,dI VW VW,ed VW VW]
  congr 1
  omega
 |proj m=>
  rename_i k i s c d a b;rw[Tm.cN] at hn;simp only[c_,Tm.cN] at hn;rcases m with rfl|rfl
  ·rw[cK aa4,cK aa4,cK aa4,cO abq];simp only[Tm.dd,dv,e9,iB,mc,cH];rw[yt (t:=a) VW];simp only[cH];rw[ed VW VW];simp[Tm.eQ]
  ·rw[cK aa4,cK aa4,cK aa4,cK aa4];simp only[Tm.dd,dv,e9,iB,mc,cH];rw[yt (t:=b) VW];simp only[cH];rw[ed VW VW];simp[Tm.eQ]
 |zero m=>
  rename_i k v i s c d b st;rw[Tm.cN] at hn;simp only[c_,Tm.cN] at hn
  have g:k≠3/\k≠11/\k≠12:=VW
  have:(Tm.mk k i s [b,st,.mk v c d []]).eQ=b:=by simp[Tm.eQ,g.1,g.2.1,g.2.2]
  rw[this];rcases m with⟨rfl,rfl⟩|⟨rfl,rfl⟩
  ·rw[cK aa4,cO abq];simp only[Tm.dd,dv,e9,il,iB,mc,cH];rw[cO abq,yt (t:=b) VW];simp only[cH];rw[ed VW VW]
  ·rw[cK aa4,cK aa4,cO abq];simp only[Tm.dd,dv,e9,il,iB,mc,cH];rw[cO abq,yt (t:=b) VW];simp only[cH];rw[ed VW VW]
 |succ=>
  rename_i i s c d b st n
  have e:(Tm.mk 6 i s [b,st,.mk 5 c d [n]]).eQ=lA st [n,.mk 6 i s [b,st,n]]:=by simp[Tm.eQ,lA]
  rw[e,nZ];rw[Tm.cN] at hn|-;simp only[c_,Tm.cN,kN,vo] at hn|-;rw[cK aa4,cO abq];simp only[Tm.dd,dv,e9,il,iB,mc,cH];rw[cK aa4,yt (t:=st) VW,yt (t:=n) VW];simp only[cH];rw[dI (a:=2) VW VW,dI (b:=(n.acU:Int)) VW VW,dI VW VW,ed (b:=1) VW VW,ed VW VW]
  congr 1
  omega
 |cons=>
  rename_i i s c d b st h n
  have e:(Tm.mk 9 i s [b,st,.mk 8 c d [h,n]]).eQ=lA st [h,n,.mk 9 i s [b,st,n]]:=by simp[Tm.eQ,lA]
  rw[e,nZ];rw[Tm.cN] at hn|-;simp only[c_,Tm.cN,kN,vo] at hn|-;rw[cK aa4,cK aa4,cO abq];simp only[Tm.dd,dv,e9,il,iB,mc,cH];rw[cK aa4,yt (t:=st) VW,yt (t:=h) VW,yt (t:=n) VW];simp only[cH];rw[dI (a:=3) VW VW,dI (b:=(h.acU:Int)) VW VW,dI (b:=(n.acU:Int)) VW VW,dI VW VW,ed (b:=1) VW VW,ed (b:=(h.acU:Int)) VW VW,ed VW VW]
  congr 1
  omega
def MZ{M:Int}(o:0<=M/\M<=1000000000000){t:Tm}(hs:Sm M t)(hn:t.acU<=8192)(c:t.root=true):qp t=some t.eQ:=by
 have j:=hs.ok;have l:=Tm.IC j c;have hw:=Tm.iN t j;unfold qp;cases l with
 |app=>
  rename_i i s e f b a;have d:=(hs.arg (.mk 2 e f [b]) aa4).arg b aa4;have g:=hs.arg a aa4;have p:=d.acU;have q:=g.acU;rw[cO abq];simp only[Tm.dd,dv,e9,iB,mc,cH];rw[Eo FU b 0 0 a (by rw[dO];omega) VW VW VW VW (d.mono o.2).acY d.ok VW (g.mono o.2).acY];simp[Tm.eQ]
 |proj m=>
  rename_i k i s e f a b;rcases m with rfl|rfl
  ·rw[cK aa4,cK aa4,cK aa4,cO abq];simp[Tm.eQ,dv]
  ·rw[cK aa4,cK aa4,cK aa4,cK aa4];simp[Tm.eQ,dv,e9]
 |zero m=>
  rename_i k r i s e f b st;rcases m with⟨rfl,rfl⟩|⟨rfl,rfl⟩
  ·rw[cK aa4,cO abq];simp[Tm.eQ,dv,il,dg]
  ·rw[cK aa4,cK aa4,cO abq];simp[Tm.eQ,dv,il,dg]
 |succ=>
  rename_i i s e f b st n;have hi:i=0:=(Tm.kT j).2.2.1 aaK;subst hi;rw[Tm.ea] at hw;simp only[c_,Tm.ea] at hw;rw[cK aa4,cO abq];simp only[Tm.dd,dv,e9,il,iB,mc,cH,Tm.dR];rw[cK aa4,tc VW VW];simp only[cH];rw[BU VW VW VW VW];simp only[cH];rw[pz _ _ (by simp only[c_,Tm.ea,Ty.z,Ty.cN];omega)];simp[Tm.eQ,lA,Ty.z]
 |cons=>
  rename_i i s e f b st h n;have hi:i=0:=(Tm.kT j).2.2.1 aaK;subst hi;rw[Tm.ea] at hw;simp only[c_,Tm.ea] at hw;rw[cK aa4,cK aa4,cO abq];simp only[Tm.dd,dv,e9,il,iB,mc,cH,Tm.dR];rw[cK aa4,tc VW VW];simp only[cH];rw[pz _ _ (by simp only[c_,Tm.ea,Ty.z,Ty.cN];omega)];simp only[cH];rw[BU VW VW VW VW];simp only[cH];rw[pz _ _ (by simp only[c_,Tm.ea,Ty.z,Ty.cN];omega)];simp[Tm.eQ,lA,Ty.z]
def W5(t:Tm)(o:Option (Option Tm))(r:Tm×Bool×Bool):Prop:=
 match o with
 |none=>r.2.1=true/\r.2.2=false|some none=>r=(t,false,true)|some (some a)=>r=(a,true,true)
def OU{M:Int}(C:0<=M/\M<=1000000000000)(room:Int):∀(n:Nat) (t:Tm),t.acU<=n->Sm M t->t.acU<=8192->∃r,nW n t room=some r/\W5 t (t.IF room) r
 |0,t,hn,_,_=>by have:=t.dp;omega
 |n+1,.mk k i s l,hn,hs,B=>by
  rw[nW,TS hs.ok];simp only[cH];rw[Tm.Ba]
  by_cases p:(Tm.mk k i s l).root=true
  ·rw[cO p,cO p,PV hs.ok B p];simp only[cH,eV]
   by_cases hg:((Tm.mk k i s l).eQ.acU:Int)-((Tm.mk k i s l).acU:Int)>room
   ·rw[cO hg,cO hg];exact⟨_,rfl,rfl,rfl⟩
   ·rw[cK hg,cK hg,MZ C hs B p];exact⟨_,rfl,rfl⟩
  ·rw[cK p,cK p];rw[Tm.cN] at hn B;have hlen:=Tm.aal hs.ok;simp only[Tm.dd,c6,db (l:=l) VW,cX,Tm.dn,Tm.eP,Tm.dR]
   have key:∀(ts pre:List Tm),l=pre++ts->∃o,dN (λ(a:Int) (v:Tm)=>(λ(_:Unit)=>
     ik (nW n v room) λw x y=>
     if x then(
     fD (yk l)<|cI (de l a) λD=>
     some (eL.ret ((Tm.mk k i s (wy l a w)),true,y)))
     else(some (.next ())))) ts pre.length ()=some o/\(match Tm.r9 room ts with
      |none=>∃r:Tm×Bool×Bool,o=.inr r/\r.2.1=true/\r.2.2=false|some none=>o=.inl ()|some (some g)=>o=.inr (Tm.mk k i s (pre++g),true,true)):=by
    intro ts
    induction ts with
    |nil=>intro pre _;exact⟨_,rfl,by rw[Tm.r9]⟩|cons t ts E=>
     intro pre z
     have h:t∈l:=by rw[z];simp
     have F:=dh Tm.acU h;obtain⟨⟨u,b,c⟩,G,j⟩:=OU C room n t VW (hs.arg t h) VW;rw[dJ];simp only[G,ov]
     have d:de l ((pre.length:Nat):Int)=some t:=by
      unfold de;rw[cO VW];rw[z];simp
     have dH:wy l ((pre.length:Nat):Int) u=pre++u::ts:=by
      unfold wy;rw[z,AN,Gx]
     have f:yk l=true:=by
      unfold yk JV;have:0<l.length:=adT h;exact xa VW
     rw[Tm.r9];unfold W5 at j;cases e:t.IF room with
     |none=>
      rw[e] at j;obtain⟨q1,A⟩:=j;simp only at q1 A;rw[cO q1,f,cX,d];exact⟨_,rfl,_,rfl,rfl,A⟩
     |some o=>
      cases o with
      |none=>
       rw[e] at j;obtain⟨rfl,q⟩:=iE j;obtain⟨rfl,rfl⟩:=iE q;rw[cK aaK];simp only[cH,dW];obtain⟨o,o1,o2⟩:=E (pre++[u]) (by rw[z];simp);rw[oJ] at o1;refine⟨o,o1,?_⟩;cases m:Tm.r9 room ts with
       |none=>rw[m] at o2;exact o2
       |some q=>
        cases q with
        |none=>rw[m] at o2;exact o2
        |some g=>rw[m] at o2;simpa using o2
      |some H=>
       rw[e] at j;obtain⟨rfl,q⟩:=iE j;obtain⟨rfl,rfl⟩:=iE q;rw[cO rfl,f,cX,d];simp only[cH,dH];exact⟨_,rfl,rfl⟩
   obtain⟨o,o1,o2⟩:=key l [] rfl;rw[show(([]:List Tm).length)=0 from rfl] at o1;rw[o1];cases m:Tm.r9 room l with
   |none=>
    rw[m] at o2;obtain⟨r,rfl,q1,A⟩:=o2;exact⟨r,rfl,q1,A⟩
   |some q=>
    cases q with
    |none=>rw[m] at o2;subst o2;exact⟨_,rfl,rfl⟩
    |some g=>rw[m] at o2;subst o2;exact⟨_,rfl,rfl⟩
def I6{t:Tm}(h:t.err=0):t.ok=true/\t.acU<=4096:=Tm.fS h
def BX(steps:Int)(z:0<=steps/\steps<=65536):∀(k:Nat) (m:Int) (t:Tm) (N:Nat),(k:Int)=steps-m->0<=m->Sm (536870912+8192*m) t->t.acU<=4096->k<N->lp ((Qz λ(d:Int) (f:Int) (g:Int) (i:Int) (j:List Ty) (l:List Tm)=>
   cI (eM FU (Tm.mk f g (Ty.mk i j) l)) λr=>
   ik (nW FU (Tm.mk f g (Ty.mk i j) l) (dZ .i64 4096 r)) λa s v=>
   if s then(
   if(dg d steps) then(
   some (.ret ((Tm.mk 0 0 (Ty.mk 0 []) []),0,5)))
   else(if v then(
   some (.next ((dF .i64 d 1),a.acS,a.acV,a.cP.acS,a.cP.acT,a.acT)))
   else(some (.ret ((Tm.mk 0 0 (Ty.mk 0 []) []),0,4)))))
   else(cI (iF FU (Tm.mk f g (Ty.mk i j) l)) λw=>
   some (.ret (w,d,0)))):(Int×Int×Int×Int×(List Ty)×(List Tm))->(Option (eL (Int×Int×Int×Int×(List Ty)×(List Tm)) (Tm×Int×Int)))) N (m,t.acS,t.acV,t.cP.acS,t.cP.acT,t.acT)=some (.inr (t.norm k m))
 |k,m,t,0,_,_,_,_,A=>by omega|k,m,t,N+1,C,hm,hs,hn,A=>by
  rw[kc];simp only[y9,WA];have hw:=Tm.iN t hs.ok;rw[yt VW];simp only[cH];rw[ed VW VW];obtain⟨⟨u,b,c⟩,B,n⟩:=OU (M:=536870912+8192*m) VW (4096-t.acU) FU t (by rw[dO];omega) hs VW;rw[B];simp only[ov];unfold W5 at n;cases e:t.IF (4096-t.acU)with
  |none=>
   rw[e] at n;obtain⟨q1,y⟩:=n;simp only at q1 y;rw[cO q1];cases k with
   |zero=>
    have p:¬t.nf=true:=by
     intro h;rw[(Fv _ t).1 h] at e;cases e
    rw[cO (by simp[dg];omega),Tm.norm,cK p];rfl
   |succ k=>
    rw[cK (by simp[dg];omega),cK (by rw[y];decide),Mj e];rfl
  |some o=>
   cases o with
   |none=>
    rw[e] at n;obtain⟨rfl,q⟩:=iE n;obtain⟨rfl,rfl⟩:=iE q;rw[cK aaK,mM VW];cases k with
    |zero=>rw[Tm.norm,cO ((Fv _ _).2 e)];rfl|succ k=>rw[IV e];rfl
   |some D=>
    rw[e] at n;obtain⟨rfl,q⟩:=iE n;obtain⟨rfl,rfl⟩:=iE q;rw[cO rfl];cases k with
    |zero=>
     have p:¬t.nf=true:=by
      intro h;rw[(Fv _ t).1 h] at e;cases e
     rw[cO (by simp[dg];omega),Tm.norm,cK p];rfl
    |succ k=>
     obtain⟨s1,s2,E⟩:=JA (M:=536870912+8192*m) VW t hs VW _ e;rw[cK (by simp[dg];omega),cO rfl,IM e,dI VW VW];have x:Sm (536870912+8192*(m+1)) u:=⟨s1,by rw[show 536870912+8192*(m+1)=536870912+8192*m+8192 by omega];exact s2,VW⟩;exact BX steps z k (m+1) u N VW VW x VW VW
def IS:∀(k:Nat) (m:Int) (t p:Tm) (n e:Int),t.norm k m=(p,n,e)->e≠0->p=Tm.z
 |0,m,t,p,n,e,h,he=>by
  rw[Tm.norm] at h
  split at h
  ·obtain⟨_,h⟩:=iE h;obtain⟨_,h⟩:=iE h;exact absurd h.symm he
  ·exact(iE h).1.symm
 |k+1,m,t,p,n,e,h,he=>by
  rw[Tm.norm] at h
  split at h
  ·exact(iE h).1.symm
  ·obtain⟨_,h⟩:=iE h;obtain⟨_,h⟩:=iE h;exact absurd h.symm he
  ·exact IS k _ _ _ _ _ h he
def y8{t:Tm}(hw:t.wt<=1000000)(steps:Int):∃p m e,jv t steps=some (p,m,e)/\la t steps=some (p,m,e)/\p.wt<=1000000000:=by
 have g:=t.gC
 have b:Tm.z.wt<=1000000000:=aaK
 have h1:=wO (t:=t) VW steps;unfold la;rw[lL VW];simp only[cH]
 by_cases he:t.err=0
 ·obtain⟨i,hn⟩:=I6 he;rw[cO he] at h1;rw[cK (by simp[dw,he])];simp only[c6,ki,eV]
  by_cases a1:steps<0
  ·rw[cK VW] at h1;rw[cO a1,cO trivial];exact⟨_,_,_,h1,rfl,b⟩
  ·rw[cK a1]
   by_cases a2:steps>65536
   ·rw[cK VW] at h1;rw[cO a2,cO trivial];exact⟨_,_,_,h1,rfl,b⟩
   ·rw[cK a2,zb FU t 536870912 (by rw[dO];omega) VW];simp only[cH]
    by_cases a:t.acY 536870912=true
    ·rw[cO ⟨VW,VW,a⟩] at h1;have hs:Sm 536870912 t:=⟨i,a,VW⟩;rw[a,cK aaK,BX steps VW steps.toNat 0 t FU VW VW hs VW (by rw[dO];omega)];generalize c:t.norm steps.toNat 0=o at h1;obtain⟨p,m,e⟩:=o;refine⟨p,m,e,h1,rfl,?_⟩;have d:=Le steps.toNat 0 t
     by_cases f:e=0
     ·subst f;obtain⟨q1,j⟩:=Kk _ 536870912 _ _ _ _ VW hs hn c;have:=Tm.iN p q1.ok;omega
     ·rw[IS _ _ _ _ _ _ c f];exact b
    ·rw[cK (λh=>a h.2.2)] at h1;rw[cO (by rw[Bool.not_eq_true] at a;rw[a];rfl)];exact⟨_,_,_,h1,rfl,b⟩
 ·rw[cK he] at h1;rw[cO (by simp[dw,he])];exact⟨_,_,_,h1,rfl,b⟩
def Sp{α σ ρ:Type}(H:List α)(w:α->Nat)(lo a B:Int)(enc:Int->Nat->σ){F:σ->Option (eL σ ρ)}
  (b:∀(v:Int) (i:Nat),¬(i<H.length/\v<=a)->F (enc v i)=some (.AI (enc v i)))
  (hF:∀(v:Int) (i:Nat) x,H[i]?=some x->lo<=v->v<=a->(i:Int)<=v->∃r:Int,F (enc v i)=some (.next (enc (v+r) (i+1)))/\1<=r/\v+r<=B/\(v+r<=a->r=w x)):∀(l:List α) (i n:Nat) (v:Int),l=H.drop i->(a+1-v).toNat<n->lo<=v->v<=B->(i:Int)<=v->∃(c:Int) (g:Nat),lp F n (enc v i)=some (.inl (enc c g))/\v<=c/\c<=B/\(c<=a->c=v+c_ w l):=by
 intro l
 induction l with
 |nil=>
  intro i n v hd hn e j hi;obtain⟨n,rfl⟩:∃m,n=m+1:=⟨n-1,VW⟩
  have:H.length<=i:=by
   have:=congrArg List.length hd;simp only[vo,My] at this;omega
  exact⟨v,i,by rw[kc,b v i VW];rfl,RA _,j,λ_=>by simp[c_]⟩
 |cons x l o=>
  intro i n v hd hn e j hi;obtain⟨n,rfl⟩:∃m,n=m+1:=⟨n-1,VW⟩;obtain⟨p,f,d⟩:=NU hd.symm
  by_cases k:v<=a
  ·obtain⟨r,h1,z,q,s⟩:=hF v i x f e k hi;obtain⟨c,g,t,k2,u,y⟩:=o (i+1) n (v+r) d.symm VW VW q VW;refine⟨c,g,by rw[kc,h1];exact t,VW,u,λhm=>?_⟩;have A:=y hm;have C:=s VW;simp only[c_];omega
  ·exact⟨v,i,by rw[kc,b v i VW];rfl,RA _,j,λh=>absurd h k⟩
def PH(i:Nat):(i:Int)+1=((i+1:Nat):Int):=VW
def Ty.No(t:Ty):t.acU=1+c_ Ty.acU t.acT:=by cases t;rw[Ty.cN];rfl
def Tm.Jn(t:Tm):t.wt=1+t.cP.acU+c_ Tm.wt t.acT:=by cases t;rw[Tm.ea];rfl
def Fm.Jn(f:Fm):f.wt=1+f.cP.acU+c_ Tm.wt f.c9+c_ Fm.wt f.acT:=by cases f;rw[Fm.ea];rfl
def NX{α:Type}{l:List α}{i:Nat}{x:α}(a:l[i]?=some x):i<l.length:=by
 rcases qu i l.length with h|h
 ·exact h
 ·rw[TO h] at a;cases a
def BZ{α ρ:Type}(l:List α)(w:α->Nat)(m lo v:Int)(g:α->Int->Option Int)(hm:-1<=m)(n:m<=20000)(j:1<=lo)(o:lo<=v)(p:v<=m+2)
  (hg:∀x (b:Int),0<=b->b<=m-lo->∃r,g x b=some r/\1<=r/\r<=b+2/\(r<=b->r=w x)):∃(d:Int) (q:Nat),lp (ρ:=ρ) (qw λ(a:Int) (c:Int)=>
   if(eu (qj c (di l)) (Em a m) false) then(
   cI (de l c) λe=>
   cI (g e (dZ .i64 m a)) λf=>
   some (.next ((dF .i64 a f),(dF .i64 c 1))))
   else(some (.AI (a,c)))) FU (v,0)=some (.inl (d,(q:Int)))/\v<=d/\d<=m+2/\(d<=m->d=v+c_ w l):=by
 refine Sp (ρ:=ρ) l w lo m (m+2) (λv i=>(v,(i:Int))) ?_ ?_ l 0 FU v rfl (by rw[dO];omega) VW VW VW
 ·intro v i h;simp only[h7,oR,ej];rw[cK];simp only[ft,ki,zL];omega
 ·intro v i x k j o s;have hi:=NX k;simp only[h7,oR,ej];rw[cO (by simp only[ft,ki,zL];omega),im,k];simp only[cH];rw[ed VW VW];obtain⟨r,t,u,z,y⟩:=hg x (m-v) VW VW;rw[t];refine⟨r,?_,u,VW,λh=>y VW⟩;simp only[cH];rw[dI VW VW,dI VW VW,PH]
def ye:∀(n:Nat) (t:Ty) (m:Int),-1<=m->m<=20000->m+1<n->∃r,mq n t m=some r/\1<=r/\r<=m+2/\(r<=m->r=t.acU):=by
 intro n
 induction n with
 |zero=>intro t m h1 a c;omega|succ n d=>
  intro t m h1 a c;rw[mq];simp only[c6];obtain⟨e,j,f,k2,g,i⟩:=BZ (ρ:=Int) t.acT Ty.acU m 1 1 (mq n) h1 a VW VW VW (λx b k l=>d x b VW VW VW);rw[f];refine⟨e,rfl,k2,g,λh=>?_⟩;rw[Ty.No,i h];omega
def EU:∀(n:Nat) (t:Tm) (m:Int),0<=m->m<=20000->m+1<n->∃r,mB n t m=some r/\1<=r/\r<=m+2/\(r<=m->r=t.wt):=by
 intro n
 induction n with
 |zero=>intro t m h1 a d;omega|succ n e=>
  intro t m h1 a d;rw[mB,ed VW VW];obtain⟨c,f,o,c3,g⟩:=ye FU t.cP (m-1) VW VW (by rw[dO];omega);rw[f];simp only[c6,cH];rw[dI VW VW];obtain⟨i,p,j,k2,k,l⟩:=BZ (ρ:=Int) t.acT Tm.wt m 1 (1+c) (mB n) VW a VW VW VW (λx b q s=>e x b VW VW VW);rw[j];refine⟨i,rfl,VW,k,λh=>?_⟩;rw[Tm.Jn,l h,g VW];omega
def Bh:∀(n:Nat) (t:Fm) (m:Int),0<=m->m<=20000->m+1<n->∃r,kR n t m=some r/\1<=r/\r<=m+2/\(r<=m->r=t.wt):=by
 intro n
 induction n with
 |zero=>intro t m h1 a d;omega|succ n e=>
  intro t m h1 a d;rw[kR,ed VW VW];obtain⟨c,f,v,c3,g⟩:=ye FU t.cP (m-1) VW VW (by rw[dO];omega);rw[f];simp only[c6,cH];rw[dI VW VW];obtain⟨i,w,j,y,z,k⟩:=BZ (ρ:=Int) t.c9 Tm.wt m 1 (1+c) (mB FU) VW a VW VW VW (λx b l o=>EU FU x b VW VW (by rw[dO];omega));rw[j];simp only[cH,cU,h7];obtain⟨p,A,q,k2,s,u⟩:=BZ (ρ:=Int) t.acT Fm.wt m 1 i (kR n) VW a VW VW VW (λx b l o=>e x b VW VW VW);rw[q];refine⟨p,rfl,VW,s,λh=>?_⟩;rw[Fm.Jn,u h,k VW,g VW];omega
def IT{a b:Tm}(c:a.wt<=1000000000):∃r,qU a b=some r/\jy FU a b=some r:=by
 obtain⟨r,d,e⟩:=HF (b:=b) c;obtain⟨q,q1,f⟩:=Aq FU a b (by rw[dO];exact c) c
 have:r=q:=by rw[DQ,e,f]
 subst this;exact⟨r,d,q1⟩
def Nb{a b:Tm}(k:a.wt<=1000000)(l:b.wt<=1000000)(steps:Int):∃c,pX a b steps=some c/\rp a b steps=some c:=by
 unfold pX rp;rw[uC VW,uC (t:=b) VW,lL VW,lL (t:=b) VW];simp only[cH]
 by_cases h1:dw a.err 0=true
 ·rw[cO h1,cO h1];exact⟨_,rfl,rfl⟩
 ·rw[cK h1,cK h1]
  by_cases d:dw b.err 0=true
  ·rw[cO d,cO d];exact⟨_,rfl,rfl⟩
  ·rw[cK d,cK d];obtain⟨r,o,u⟩:=IT (a:=a) (b:=b) VW;rw[o,u];simp only[cH]
   by_cases g:r=true
   ·rw[cO g,cO g];exact⟨_,rfl,rfl⟩
   ·rw[cK g,cK g];obtain⟨p,m,e,v,w,x⟩:=y8 k steps;obtain⟨q,n,f,q1,y,z⟩:=y8 l steps;rw[v,w,q1,y];simp only[ov]
    by_cases h:dw e 0=true
    ·rw[cO h,cO h];exact⟨_,rfl,rfl⟩
    ·rw[cK h,cK h]
     by_cases i:dw f 0=true
     ·rw[cO i,cO i];exact⟨_,rfl,rfl⟩
     ·rw[cK i,cK i];obtain⟨s,s1,s2⟩:=IT (a:=p) (b:=q) x;rw[s1,s2];simp only[cH]
      by_cases j:s=true
      ·rw[cO j];exact⟨_,rfl,rfl⟩
      ·rw[cK j];exact⟨_,rfl,rfl⟩
def DC{α:Type}{E E':α->α->Option Int}{M:List α}:∀(l:List α) (i:Nat),(∀x∈l,∀y∈M,∃c,E x y=some c/\E' x y=some c)->i+l.length<=M.length->∃o,dN (λ(d:Int) (e:α)=>(λ(_:Unit)=>cI (de M d) λb=>cI (E e b) λa=>if(dw a 0) then(some (.ret a))else(some ((.next ()):eL Unit Int)))) l i ()=some o/\dN (λ(d:Int) (e:α)=>(λ(_:Unit)=>cI (de M d) λb=>cI (E' e b) λa=>if(dw a 0) then(some (.ret a))else(some ((.next ()):eL Unit Int)))) l i ()=some o
 |[],i,_,_=>⟨.inl (),aa4,aa4⟩|x::l,i,h,g=>by
  simp only[kN] at g;obtain⟨c,j,k⟩:=h x aa4 M[i] (GH VW);rw[dJ,dJ,im,oO VW];simp only[cH,j,k]
  by_cases f:dw c 0=true
  ·rw[cO f];exact⟨.inr c,rfl,rfl⟩
  ·rw[cK f];simp only[cH,dW];exact DC l (i+1) (λy hy=>h y (by simp[hy])) VW
def Fm.shape{k:Int}{s e:Ty}{ts us:List Tm}{l m:List Fm}(h:(Fm.mk k s ts l).ok=true)(c:(Fm.mk k e us m).ok=true):ts.length=us.length/\l.length=m.length:=by
 rw[Fm.fV] at h c;simp only[ft] at h c;have h1:=h.1.1;have a:=c.1.1;unfold Fm.node at h1 a
 split at h1
 ·rename_i d;rw[cO d] at a;simp only[ft,oI] at h1 a;omega
 ·rename_i d;rw[cK d] at a
  split at h1
  ·rename_i b;rw[cO b] at a;simp only[ft,oI] at h1 a;omega
  ·rename_i b;rw[cK b] at a;simp only[ft,oI] at h1 a;omega
def Nz:∀(n:Nat) (a b:Fm),a.wt<=n->a.wt<=1000000->b.wt<=1000000->a.ok=true->b.ok=true->∃c,lu n a b=some c/\pq n a b=some c:=by
 intro n
 induction n with
 |zero=>intro t b h;have:=t.gX;omega
 |succ n w=>
  intro a b h z g p d;cases a with
  |mk k s ts l=>
  cases b with
  |mk k' A us m=>
   rw[Fm.ea] at h z g;have D:=Fm.mQ l;have B:=Tm.mQ ts;rw[lu,pq];simp only[Fm.dd,Fm.dn,Fm.fU,Fm.dR,c6,db (l:=l) VW,db (l:=ts) VW,cX,da]
   by_cases e:k≠k'
   ·rw[cO e,cO e];exact⟨11,rfl,rfl⟩
   ·rw[cK e,cK e,rQ VW,gU VW];simp only[cH];have i:k=k':=zq.1 e;subst i;obtain⟨s1,s2⟩:=Fm.shape p d;obtain⟨_,F,ol⟩:=Fm.s6 p;obtain⟨_,C,j⟩:=Fm.s6 d;cases s.nw A with
    |false=>exact⟨11,rfl,rfl⟩|true=>
     obtain⟨o,q,k2⟩:=DC (E:=λx y=>pX x y 1000) (E':=λx y=>rp x y 1000) (M:=us) ts 0 (λx f y hy=>Nb (by have:=dh Tm.wt f;omega) (by have:=dh Tm.wt hy;omega) 1000) VW;simp only[da] at q k2;rw[cK aaK,cK aaK,q,k2];cases o with
     |inr r=>exact⟨r,rfl,rfl⟩|inl u=>
      simp only[cH,cU];obtain⟨o,q1,v⟩:=DC (E:=λx y=>lu n x y) (E':=λx y=>pq n x y) (M:=m) l 0 (λx f y hy=>w x y (by have:=dh Fm.wt f;omega) (by have:=dh Fm.wt f;omega) (by have:=dh Fm.wt hy;omega) (ol x f) (j y hy)) VW;simp only[da] at q1 v;rw[q1,v];cases o with
      |inr r=>exact⟨r,rfl,rfl⟩|inl u=>exact⟨0,rfl,rfl⟩
def AM{a b:Fm}(e:a.wt<=1000000000)(f:b.wt<=1000000000):∃c,iV a b=some c/\lx a b=some c:=by
 unfold iV lx;rw[nB e,nB f,lU e,lU f];simp only[cH,da]
 by_cases h1:a.err≠0
 ·rw[cO h1,cO h1];exact⟨_,rfl,rfl⟩
 ·rw[cK h1,cK h1]
  by_cases d:b.err≠0
  ·rw[cO d,cO d];exact⟨_,rfl,rfl⟩
  ·rw[cK d,cK d];obtain⟨o1,n1⟩:=Fm.fS (zq.1 h1);obtain⟨o2,n2⟩:=Fm.fS (zq.1 d);have i:=a.iN o1;have j:=b.iN o2;obtain⟨c,g,h⟩:=Nz FU a b (by rw[dO];omega) VW VW o1 o2;rw[g,h];exact⟨c,rfl,rfl⟩
def KT{g:List Ty}{x:Tm}{t:Ty}(h:dG g x t)(hg:jd g)(a:g.length+x.acU<=1000000):x.ty g=(t,0):=by
 have h1:=(SS h hg).2 x.acU (gu _) a;rw[yJ x.acU x (gu _) h.ok g hg a] at h1;exact gh h1
def KZ{g:List Ty}{x:Tm}(b:x.ok=true)(hg:jd g)(h:oN x g 1=0):dG g x .nat:=by
 unfold oN at h
 split at h
 ·cases h
 ·rename_i c
  have d:(x.ty g).1.acS=1:=by
   rcases Int.emod_two_eq (x.ty g).1.acS with _|_<;>
   ·by_cases a:(x.ty g).1.acS=1
    ·exact a
    ·exact absurd ⟨h,a⟩ c
  obtain⟨h1,e⟩:=qk _ x (gu _) b g hg _ (yi h);rw[(uN e).1 d] at h1;exact h1
def Ko{g:List Ty}{x:Tm}(h:dG g x .nat)(hg:jd g)(a:g.length+x.acU<=1000000):oN x g 1=0:=by
 unfold oN;rw[KT h hg a];exact cK (λh=>h.2 rfl)
def sq(f:Fm)(n:f.ok=true):∀g,jd g->f.vn g=0->j1 g f:=by
 refine Fm.ow (p:=λf=>∀g,jd g->f.vn g=0->j1 g f) ?_ ?_ ?_ f n
 ·intro a b i m g hg h;rw[Fm.tB] at h
  by_cases h1:oN a g 1=0
  ·by_cases d:oN b g 1=0
   ·exact .eq (KZ i hg h1) (KZ m hg d)
   ·simp[fK,h1,d] at h
  ·simp[fK,h1] at h
 ·intro k a b e i m c j g hg h
  have l:jz k=false:=by rcases e with rfl|rfl<;>rfl
  rw[Fm.tB,l] at h;simp only[V2,fK,wb,if_true,oZ,kY] at h
  by_cases h1:a.vn g=0
  ·rw[cO h1] at h
   by_cases d:b.vn g=0
   ·exact .two e (c g hg h1) (j g hg d)
   ·rw[cK d] at h;exact absurd h d
  ·rw[cK h1] at h;exact absurd h h1
 ·intro k s a e hs i c g hg h
  have l:jz k=true:=by rcases e with rfl|rfl|rfl|rfl<;>rfl
  rw[Fm.tB,l] at h;simp only[V2,fK,wb,if_true] at h
  by_cases h1:a.vn (g++[s])=0
  ·exact .q e hs (c _ (hg.app hs) h1)
  ·rw[cK h1] at h;exact absurd h h1
def JE{g:List Ty}{f:Fm}(h:j1 g f):jd g->g.length+f.acU<=1000000->f.vn g=0:=by
 induction h with
 |eq h1 l=>
  intro hg c;rw[Fm.cN] at c;simp only[c_] at c;rw[Fm.tB];simp[fK,Ko h1 hg VW,Ko l hg VW]
 |two d _ _ e i=>
  intro hg c;rw[Fm.cN] at c;simp only[c_] at c;rename_i k a b _ _
  have j:jz k=false:=by rcases d with rfl|rfl<;>rfl
  rw[Fm.tB,j];simp[fK,e hg VW,i hg VW]
 |q d hs _ m=>
  intro hg c;rw[Fm.cN] at c;simp only[c_] at c;rename_i k s a _
  have j:jz k=true:=by rcases d with rfl|rfl|rfl|rfl<;>rfl
  rw[Fm.tB,j];simp[fK,m (hg.app hs) aa_]
def j1.up{g:List Ty}{f:Fm}(h:j1 g f):∀g1 g2 e:List Ty,g=g1++g2->j1 (g1++e++g2) (f.up g2.length e.length):=by
 induction h with
 |eq h1 l=>
  intro g1 g2 e hg;rw[Fm.kJ];exact .eq (h1.up g1 g2 e hg) (l.up g1 g2 e hg)
 |two c _ _ d i=>
  intro g1 g2 e hg;rename_i k a b _ _
  have j:qB k=0:=by rcases c with rfl|rfl<;>rfl
  rw[Fm.kJ,j,ym];exact .two c (d g1 g2 e hg) (i g1 g2 e hg)
 |q c hs _ m=>
  intro g1 g2 e hg;rename_i k s a _
  have j:qB k=1:=by rcases c with rfl|rfl|rfl|rfl<;>rfl
  subst hg;have:=m g1 (g2++[s]) e (by rw[tE]);rw[Fm.kJ,j];rw[oJ,<-tE] at this;exact .q c hs this
def j1.lift{g:List Ty}{f:Fm}(h:j1 g f)(e:List Ty):j1 (g++e) (f.up 0 e.length):=by
 have:=h.up g [] e aa4;simpa using this
theorem j1.nj{g:List Ty}{f:Fm}(h:j1 g f):∀(g1:List Ty) (s:Ty) (g2:List Ty) (a:Tm),g=g1++[s]++g2->dG g1 a s->j1 (g1++g2) (Fm.nj g2.length f a):=by
 induction h with
 |eq h1 j=>
  intro g1 s g2 a hg b;rw[Fm.nC];exact .eq (h1.nj g1 s g2 a hg b) (j.nj g1 s g2 a hg b)
 |two c _ _ d e=>
  intro g1 s g2 a hg b;rename_i k x y _ _
  have i:qB k=0:=by rcases c with rfl|rfl<;>rfl
  rw[Fm.nC,i,ym];exact .two c (d g1 s g2 a hg b) (e g1 s g2 a hg b)
 |q c hs _ l=>
  intro g1 s g2 a hg b;rename_i k m x _
  have i:qB k=1:=by rcases c with rfl|rfl|rfl|rfl<;>rfl
  subst hg;have:=l g1 s (g2++[m]) a aa4 b;rw[Fm.nC,i];rw[oJ,<-tE] at this;exact .q c hs this
def j1.put{g:List Ty}{s:Ty}{f:Fm}(h:j1 (g++[s]) f){a:Tm}(b:dG g a s):j1 g (Fm.nj 0 f a):=by
 have:=h.nj g s [] a aa4 b;simpa using this
def dG.front{g:List Ty}{x:Tm}{t:Ty}(h:dG g x t)(e:List Ty):dG (e++g) x t:=by
 induction h with
 |@var g t i h1 f=>
  refine .var i aa_ ?_;rw[wc aa_,<-f]
  congr 1
  simp;omega
 |lam h1 _ c=>exact .lam h1 (by rw[tE];exact c)|app _ _ a b=>exact .app a b|zero=>exact .zero|succ _ c=>exact .succ c|tN h1 _ _ _ a b d=>exact .tN h1 a b d|nil=>exact .nil|cons _ _ a b=>exact .cons a b|fold h1 _ _ _ a b d=>exact .fold h1 a b d|pair h1 _ _ a b=>exact .pair h1 a b|fst _ c=>exact .fst c|snd _ c=>exact .snd c|unit=>exact .unit
def j1.front{g:List Ty}{f:Fm}(h:j1 g f)(e:List Ty):j1 (e++g) f:=by
 induction h with
 |eq h1 d=>exact .eq (h1.front e) (d.front e)|two a _ _ b c=>exact .two a b c|q a hs _ i=>exact .q a hs (by rw[tE];exact i)
structure Hg (g:List Ty) (f:Fm):Prop where
 err:f.err=0
 ty:j1 g f
def Hg.acU{g:List Ty}{f:Fm}(h:Hg g f):f.acU<=4096:=(Fm.fS h.err).2
def Hg.ok{g:List Ty}{f:Fm}(h:Hg g f):f.ok=true:=(Fm.fS h.err).1
def Hg.acY{g:List Ty}{f:Fm}(h:Hg g f)(hg:g.length<=16){m:Int}(hm:5000<=m):f.acY m=true:=h.ty.acY m (by have:=h.acU;omega)
def Hg.hy{g:List Ty}{f:Fm}(h:Hg g f)(hg:g.length<=16):Hy f:=⟨h.err,h.acY hg VW⟩
def Hg.up{g:List Ty}{f:Fm}(h:Hg g f)(l:List Ty):Hg (g++l) (f.up 0 l.length):=by
 have hn:=Fm.qt f 0 l.length;obtain⟨h1,a⟩:=Fm.fS h.err;refine⟨?_,h.ty.lift l⟩;unfold Fm.err;rw[Fm.IB f 0 l.length VW VW,h1,cO rfl,hn,cK VW]
structure PG (L:List Fm) (p:cQ) (c:cS):Prop where
 pl:Ul p c
 N9:c.lemmas=L
 W0:∀f∈L,Hg [] f
 acZ:∀f∈c.acZ,Hg c.acW f
def PG.RK{L:List Fm}{p:cQ}{c:cS}(h:PG L p c){l:List Ty}(j:jd l)(hn:c.acW.length+l.length<=16):∃d a,eC p l=some d/\eh c l=some a/\PG L d a/\a.acW=c.acW++l/\a.acZ=c.acZ.map (Fm.up 0 l.length):=by
 obtain⟨d,a,k,m,n,o,g,i⟩:=h.pl.below j hn (λf b=>⟨(h.acZ f b).err,(h.acZ f b).acY h.pl.nv VW⟩);refine⟨d,a,k,m,⟨n,o.trans h.N9,h.W0,λf b=>?_⟩,g,i⟩;rw[i] at b;obtain⟨f0,e,rfl⟩:=l8.1 b;rw[g];exact(h.acZ f0 e).up l
def PG.below{L:List Fm}{p:cQ}{c:cS}(h:PG L p c){s:Ty}(hs:s.err=0)(hn:c.acW.length+1<=16):∃b a,eC p [s]=some b/\eh c [s]=some a/\PG L b a/\a.acW=c.acW++[s]/\a.acZ=c.acZ.map (Fm.up 0 1):=
 h.RK (l:=[s]) (λx d=>by rw[yo.1 d];exact hs) hn
def PG.with{L:List Fm}{p:cQ}{c:cS}(h:PG L p c){f:Fm}(d:Hg c.acW f)(hn:c.acZ.length+1<=16):∃b a,eI p f=some b/\eZ c f=some a/\PG L b a/\a.acW=c.acW/\a.acZ=c.acZ++[f]:=by
 obtain⟨b,a,i,j,k,l,e,g⟩:=h.pl.with (d.hy h.pl.nv) hn;refine⟨b,a,i,j,⟨k,l.trans h.N9,h.W0,λx hx=>?_⟩,e,g⟩;rw[g] at hx;rw[e];rcases qA.1 hx with hx|hx
 ·exact h.acZ x hx
 ·rw[yo.1 hx];exact d
def PG.room{L:List Fm}{p:cQ}{c:cS}(h:PG L p c){v k:Nat}(h1:v<=100)(e:k<=100):(ds p.eK v k=some 0/\dq c v k=some 0/\c.acW.length+v<=16/\c.acZ.length+k<=16)\/(ds p.eK v k=some 3/\dq c v k=some 3/\(16<c.acW.length+v\/16<c.acZ.length+k)):=by
 unfold ds dq;have b:=h.pl.vars;have d:=h.pl.acZ;have f:=h.pl.nv;have g:=h.pl.nh;rw[b,d,ej,ej,dI VW VW,dI VW VW,lN]
 by_cases a:(kZ ((c.acW.length:Int)+v) 16||kZ ((c.acZ.length:Int)+k) 16)=true
 ·rw[cO a];simp only[r5,eV] at a;exact .inr ⟨rfl,rfl,VW⟩
 ·rw[cK a];simp only[r5,eV,not_or] at a;exact .inl ⟨rfl,rfl,VW,VW⟩
def EC.len{N:Int}:∀{l:List Int} {lo:Int},EC l->(∀x∈l,lo<=x/\x<N)->(l.length:Int)<=max 0 (N-lo)
 |[],lo,_,_=>by simp;omega|a::l,lo,.cons h1 c,h=>by
  have d:=h a aa4;have e:=EC.len (lo:=a+1) c (λx b=>⟨by have:=h1 x b;omega,(h x (by simp[b])).2⟩);simp only[kN];omega
def Us.len{l:List Int}{m:Nat}(h:Us l m):l.length<=32:=by
 have:=EC.len (N:=32) (lo:=0) h.Yq (λx a=>⟨h.pos x a,h.bound x a⟩);omega
def dG.M4{g:List Ty}{x:Tm}{t:Ty}(h:dG g x t):∀j:Int,(g.length:Int)<=j->x.ac0 j=0:=by
 induction h with
 |@var g t i h1 k=>
  intro j a;rw[Tm.fu,cK (λh=>by have:=h.2;omega)];rfl
 |@lam g s b t h1 _ e=>
  intro j a;rw[Tm.fu,cK (λh=>by cases h.1)];simp only[c_];rw[e (j+eU 2) (by show _<=j+1;simp;omega)]
 |app _ _ c d=>intro j a;rw[Tm.fu,cK (λh=>by cases h.1)];simp only[c_,show eU 3=0 from rfl,ym,c j a,d j a]
 |zero=>intro j a;rw[Tm.fu,cK (λh=>by cases h.1)];rfl
 |succ _ e=>intro j a;rw[Tm.fu,cK (λh=>by cases h.1)];simp only[c_,show eU 5=0 from rfl,ym,e j a]
 |tN h1 _ _ _ c d f=>intro j a;rw[Tm.fu,cK (λh=>by cases h.1)];simp only[c_,show eU 6=0 from rfl,ym,c j a,d j a,f j a]
 |nil=>intro j a;rw[Tm.fu,cK (λh=>by cases h.1)];rfl
 |cons _ _ c d=>intro j a;rw[Tm.fu,cK (λh=>by cases h.1)];simp only[c_,show eU 8=0 from rfl,ym,c j a,d j a]
 |fold h1 _ _ _ c d f=>intro j a;rw[Tm.fu,cK (λh=>by cases h.1)];simp only[c_,show eU 9=0 from rfl,ym,c j a,d j a,f j a]
 |pair h1 _ _ c d=>intro j a;rw[Tm.fu,cK (λh=>by cases h.1)];simp only[c_,show eU 10=0 from rfl,ym,c j a,d j a]
 |fst _ e=>intro j a;rw[Tm.fu,cK (λh=>by cases h.1)];simp only[c_,show eU 11=0 from rfl,ym,e j a]
 |snd _ e=>intro j a;rw[Tm.fu,cK (λh=>by cases h.1)];simp only[c_,show eU 12=0 from rfl,ym,e j a]
 |unit=>intro j a;rw[Tm.fu,cK (λh=>by cases h.1)];rfl
def fR:Fm:=.mk 0 (.mk 0 []) [] []
def Nf(k:Option (cL×Int)):Option (cL×Int):=
 cT k λa b=>
 if(dw b 0) then(
 some ((cL.mk (Fm.mk 0 (Ty.mk 0 []) [] []) 0),b))
 else(cI (ju a.cR) λd=>
 if(dw d 0) then(
 some ((cL.mk (Fm.mk 0 (Ty.mk 0 []) [] []) 0),4))
 else(df (λ(v30:Int)=>
 some ((cL.mk a.cR v30),0)) λc=>
 cT (oz a.cR) λe f=>
 if e then(
 c a.fk)
 else(c 0)))
def M7(r:Option (Fm×List Int×Int)):Option (p_×Int):=
 ik r λb g f=>
 if(dw f 0) then(
 some ((p_.mk (Fm.mk 0 (Ty.mk 0 []) [] []) []),f))
 else(cI (jS b) λc=>
 if(dw c 0) then(
 some ((p_.mk (Fm.mk 0 (Ty.mk 0 []) [] []) []),4))
 else(df (λ(d:List Int)=>
 some ((p_.mk b d),0)) λa=>
 cT (oE b) λe h=>
 if e then(
 a g)
 else(a [])))
def BJ{α:Type}{F:Int->α->Unit->Option (eL Unit Bool)}(w:α->Nat):∀(l:List α) (i:Nat),(∀j x,x∈l->F j x ()=if 0<w x then some (.ret true)else some (.next ()))->dN F l i ()=some (if 0<c_ w l then .inr true else .inl ())
 |[],i,_=>rfl|x::l,i,h=>by
  have c:=BJ w l (i+1) (λj y hy=>h j y (by simp[hy]));rw[dJ,h i x aa4]
  by_cases a:0<w x
  ·rw[cO a,cO (show 0<c_ w (x::l) by simp only[c_];omega)];rfl
  ·rw[cK a];show dN F l (i+1) ()=_;rw[c]
   by_cases b:0<c_ w l
   ·rw[cO b,cO (show 0<c_ w (x::l) by simp only[c_];omega)]
   ·rw[cK b,cK (show¬0<c_ w (x::l) by simp only[c_];omega)]
def JI:∀(n:Nat) (t:Tm) (a:Int),t.acU<=n->t.acU<=1000000000->0<=a->a+t.acU<=10000000000->uj n t a=some (decide (0<t.ac0 a)):=by
 intro n
 induction n with
 |zero=>intro t a h;have:=t.dp;omega
 |succ n f=>
  intro t a h d o e;cases t with
  |mk k i s l=>
   rw[Tm.cN] at h d e;have p:=Tm.ek l;have q:=kf k;rw[uj,Tm.fu];simp only[Tm.dd,Tm.eP,Tm.dn,c6,oR,ft,eW]
   by_cases c:k=1/\i=a
   ·rw[cO c,cO c]
    congr 1
    exact(xa VW).symm
   ·rw[cK c,cK c,db VW,cX,BJ (Tm.ac0 (a+eU k)) l 0 (λj x g=>by
     have m:=dh Tm.acU g;rw[nu,cH,Tm.dn,dI VW VW,f x (a+eU k) VW VW VW VW,cH]
     by_cases b:0<x.ac0 (a+eU k)
     ·rw[cO b,cO (xa b)]
     ·rw[cK b,cK (by simpa using b)]),cH,r_]
    by_cases b:0<c_ (Tm.ac0 (a+eU k)) l
    ·rw[cO b,pK,xa b]
    ·rw[cK b,cU,EY b]
def CL:∀(n:Nat) (t:Fm) (a:Int),t.acU<=n->t.acU<=1000000000->0<=a->a+t.acU<=10000000000->pR n t a=some (decide (0<t.ac0 a)):=by
 intro n
 induction n with
 |zero=>intro t a h;have:=t.dp;omega
 |succ n g=>
  intro t a h c m d;cases t with
  |mk k s ts l=>
   rw[Fm.cN] at h c d;have o:=Fm.ek l;have i:=Tm.ek ts;have p:=B5 k;rw[pR,Fm.fu];simp only[Fm.dd,Fm.fU,c6]
   rw[db VW,cX,BJ (Tm.ac0 a) ts 0 (λj x e=>by
    have f:=dh Tm.acU e;rw[JI FU x a (by rw[dO];omega) VW VW VW,cH]
    by_cases b:0<x.ac0 a
    ·rw[cO b,cO (xa b)]
    ·rw[cK b,cK (by simpa using b)]),cH]
   by_cases h1:0<c_ (Tm.ac0 a) ts
   ·rw[cO h1,pK,xa VW]
   ·rw[cK h1,cU,db VW,cX,BJ (Fm.ac0 (a+qB k)) l 0 (λj x e=>by
     have f:=dh Fm.acU e;rw[o_,cH,Fm.dn,dI VW VW,g x (a+qB k) VW VW VW VW,cH]
     by_cases b:0<x.ac0 (a+qB k)
     ·rw[cO b,cO (xa b)]
     ·rw[cK b,cK (by simpa using b)]),cH]
    by_cases b:0<c_ (Fm.ac0 (a+qB k)) l
    ·rw[cO b,pK,xa VW]
    ·rw[cK b,cU,EY VW]
def Tm.BR(s:Tm):∀(t:Tm) (n:Int),t.ok=true->t.ac0 n=0->Tm.nj n t s=t.up (n+1) (-1):=by
 intro t
 induction t using Tm.ind with
 |h k i ty l g=>
  intro n d e;have hi:=Tm.kT d;rw[Tm.fu] at e;rw[Tm.nC,Tm.kJ]
  by_cases a:k=1
  ·subst a;obtain⟨rfl,rfl⟩:=Tm.Q8 d
   have b:i≠n:=λh=>by rw[cO ⟨rfl,h⟩] at e;omega
   rw[cO rfl];unfold Tm.uo;rw[cK b]
   by_cases f:n<i
   ·rw[cO f,cO ⟨rfl,VW⟩];rfl
   ·rw[cK f,cK (λh=>by omega)];rfl
  ·rw[cK a,cK (λh=>a h.1)]
   congr 1
   refine vW λx c=>?_;have:=dh (Tm.ac0 (n+eU k)) c;rw[g x c (n+eU k) (hi.2.2.2.1 x c) VW,show n+eU k+1=n+1+eU k by omega]
def Fm.BR(s:Tm):∀(t:Fm) (n:Int),t.ok=true->t.ac0 n=0->Fm.nj n t s=t.up (n+1) (-1):=by
 intro t
 induction t using Fm.ind with
 |h k ty ts l b=>
  intro n c d;obtain⟨_,h1,e⟩:=Fm.s6 c;rw[Fm.fu] at d;rw[Fm.nC,Fm.kJ]
  congr 1
  ·refine vW λx a=>?_;have:=dh (Tm.ac0 n) a;exact Tm.BR s x n (h1 x a) VW
  ·refine vW λx a=>?_;have:=dh (Fm.ac0 (n+qB k)) a;rw[b x a (n+qB k) (e x a) VW,show n+qB k+1=n+1+qB k by omega]
def JW:∀(n:Nat) (t:Tm) (f:Int),t.acU<=n->t.acU<=1000000000->0<=f->f+t.acU<=10000000000->t.acY 1000000000000=true->qs n t f (-1)=some (t.up f (-1)):=by
 intro n
 induction n with
 |zero=>intro t f h;have:=t.dp;omega
 |succ n o=>
  intro t f h a u b hi;cases t with
  |mk k i s l=>
   rw[Tm.cN] at h a b;rw[Tm.er] at hi;simp only[ft,oI,j7] at hi;have w:=Tm.ek l;have y:=kf k;rw[qs];simp only[Tm.dd,Tm.eP,Tm.dn,Tm.dR,c6,db (l:=l) VW,cX];rw[hS (Tm.up (f+eU k) (-1)) l 0 [] aa_]
   ·rw[Tm.kJ];simp only[cH,cU,mR,sy,Tm.mk.injEq,Uv,TA]
    by_cases c:k=1/\f<=i
    ·obtain⟨rfl,d⟩:=c;rw[dI VW VW];have p:dg 1 1=true:=rfl
     have q:sM i f=true:=by simp[d]
     simp[p,q,d]
    ·rw[cK c]
     have e:eu (dg k 1) (sM i f) false=false:=by
      rw[oR,UO];simp only[ne_eq,ft,eW,ib];exact c
     rw[e];rfl
   ·intro j x v g r;have:=dh Tm.acU g;rw[nu];simp only[cH,Tm.dn];rw[dI VW VW,o x (f+eU k) VW VW VW VW (hi.2 x g)];simp[dS (l:=v) (m:=[x.up (f+eU k) (-1)]) (by simpa using r)]
def Cy:∀(n:Nat) (t:Fm) (f:Int),t.acU<=n->t.acU<=1000000000->0<=f->f+t.acU<=10000000000->t.acY 1000000000000=true->fH n t f (-1)=some (t.up f (-1)):=by
 intro n
 induction n with
 |zero=>intro t f h;have:=t.dp;omega
 |succ n e=>
  intro t f h b g c hi;cases t with
  |mk k s ts l=>
   rw[Fm.cN] at h b c;rw[Fm.er] at hi;simp only[ft,j7] at hi;have o:=Fm.ek l;have i:=Tm.ek ts;have p:=B5 k;rw[fH];simp only[Fm.dd,Fm.fU,Fm.dn,Fm.dR,c6,db (l:=l) VW,db (l:=ts) VW,cX];rw[hS (Tm.up f (-1)) ts 0 [] aa_]
   ·simp only[cH,cU];rw[hS (Fm.up (f+qB k) (-1)) l 0 [] aa_]
    ·simp[Fm.kJ]
    ·intro j x v a d;have:=dh Fm.acU a;rw[o_];simp only[cH,Fm.dn];rw[dI VW VW,e x (f+qB k) VW VW VW VW (hi.2 x a)];simp[dS (l:=v) (m:=[x.up (f+qB k) (-1)]) (by simpa using d)]
   ·intro j x v a d;have:=dh Tm.acU a;rw[JW FU x f (by rw[dO];omega) VW g VW (hi.1 x a)];simp[dS (l:=v) (m:=[x.up f (-1)]) (by simpa using d)]
def P1:FX Tm.z:=by
 show FX (Tm.mk 0 0 (Ty.mk 0 []) []);intro c b h1;have a:FU=999999999+1:=dO;unfold q4 n8;rw[a,fT,cK (show¬(dg (Tm.mk 0 0 (Ty.mk 0 []) []).acS 1=true) by decide)];simp only[Tm.dn,Tm.dR,Tm.dd,Tm.eP,c6];rw[oB aaK,cH,db aaK,cX];rfl
def sZ{f:Fm}(a:f.ok=true)(hn:f.acU<=50000000)(b:f.acY 1000000000000=true)(c:f.ac0 0=0):jU f 0 (Tm.mk 0 0 (Ty.mk 0 []) [])=some (f.up 1 (-1)):=by
 rw[show Tm.mk 0 0 (Ty.mk 0 []) []=Tm.z from rfl,vi a hn b P1 VW VW,Fm.BR _ f 0 a c];rfl
noncomputable def Cn (x:Tm) (e:Int):Tm×Int:=if e=0 then((x.norm 1000 0).1,(x.norm 1000 0).2.2)else(x,e)
def p7{α:Type}(f:α->Int->α×Int):List α->Int->List α×Int
 |[],e=>([],e)|x::l,e=>((f x e).1::(p7 f l (f x e).2).1,(p7 f l (f x e).2).2)
mutual
noncomputable def Fm.wL:Fm->Int->Fm×Int
 |.mk k s ts l,e=>(.mk k s (p7 Cn ts e).1 (Fm.ND l (p7 Cn ts e).2).1,(Fm.ND l (p7 Cn ts e).2).2)
noncomputable def Fm.ND:List Fm->Int->List Fm×Int
 |[],e=>([],e)|f::l,e=>((f.wL e).1::(Fm.ND l (f.wL e).2).1,(Fm.ND l (f.wL e).2).2)
end
def Fm.OX:∀(l:List Fm) (e:Int),Fm.ND l e=p7 Fm.wL l e
 |[],e=>by rw[Fm.ND,p7]|f::l,e=>by rw[Fm.ND,p7,Fm.OX l]
def Fm.Dy(k:Int)(s:Ty)(ts:List Tm)(l:List Fm)(e:Int):(Fm.mk k s ts l).wL e=(.mk k s (p7 Cn ts e).1 (p7 Fm.wL l (p7 Cn ts e).2).1,(p7 Fm.wL l (p7 Cn ts e).2).2):=by rw[Fm.wL,Fm.OX]
def ub{α:Type}{f:α->Int->α×Int}:∀(l:List α) (e:Int),(∀x∈l,∀e,e≠0->(f x e).2=e)->e≠0->(p7 f l e).2=e
 |[],e,_,_=>rfl|x::l,e,h,he=>by
  have h1:=h x aa4 e he;simp only[p7];rw[h1];exact ub l e (λy hy=>h y (by simp[hy])) he
def Ga{x:Tm}{e:Int}(he:e≠0):(Cn x e).2=e:=by unfold Cn;rw[cK he]
def Fm.KP(f:Fm):∀e:Int,e≠0->(f.wL e).2=e:=by
 induction f using Fm.ind with
 |h k s ts l a=>
  intro e he;rw[Fm.Dy];have h1:=ub (f:=Cn) ts e (λx _ e he=>Ga he) he;simp only[];rw[h1];exact ub l e a he
def Dw{α ρ:Type}{E:α->Int->Option (α×Int)}{f:α->Int->α×Int}:∀(l:List α) (j:Nat) (v:List α) (e:Int),(∀x∈l,∀e,E x e=some (f x e))->v.length+l.length<=1000000000->dN (λ(k:Int) (c:α)=>(qw λ(v91:List α) (d:Int)=>
   cT (E c d) λa b=>
   fD (eJ v91 [a])<|some ((.next ((fa v91 [a]),b)):eL ((List α)×Int) ρ))) l j (v,e)=some (.inl (v++(p7 f l e).1,(p7 f l e).2))
 |[],j,v,e,_,_=>by simp[p7]|x::l,j,v,e,h,m=>by
  simp only[kN] at m;rw[dJ];simp only[qw];rw[h x aa4 e];obtain⟨y,g,i⟩:∃y g,f x e=(y,g):=⟨_,_,rfl⟩;rw[i];rw[cJ,dS aa_,cX];simp only[cH,dW];rw[fx];have:=Dw (ρ:=ρ) l (j+1) (v++[y]) g (λz n=>h z (by simp[n])) aa_;rw[this];simp only[p7,i];simp
structure Nm (x:Tm):Prop where
 err:x.err=0
 acY:x.acY 536870912=true
def Nm.both{x:Tm}(h:Nm x):jv x 1000=some (x.norm 1000 0)/\la x 1000=some (x.norm 1000 0):=by
 obtain⟨a,hn⟩:=I6 h.err;have hw:=x.iN a;have h1:=wO (t:=x) VW 1000;rw[cO h.err,cO ⟨VW,VW,h.acY⟩] at h1;obtain⟨p,m,e,b,c,_⟩:=y8 (t:=x) VW 1000;have h1:jv x 1000=some (x.norm 1000 0):=h1;refine⟨h1,?_⟩;rw[c,<-b,h1]
def Ac{x:Tm}(h:Nm x)(b e:Int):jg x b e=some (Cn x e):=by
 unfold jg Cn
 by_cases he:e=0
 ·rw[cO he,cK (by rw[da];simpa using he),h.both.1];rfl
 ·rw[cK he,cO (by rw[da];exact he)]
inductive T0:Fm->Prop
 |mk {k s ts l}:(∀x∈ts,Nm x)->(∀f∈l,T0 f)->T0 (.mk k s ts l)
def T0.of(f:Fm):f.acU<=4096->f.ok=true->f.acY 536870912=true->T0 f:=by
 induction f using Fm.ind with
 |h k s ts l d=>
  intro hn e b;obtain⟨_,h1,g⟩:=Fm.s6 e;rw[Fm.cN] at hn;rw[Fm.er,ft,j7,j7] at b;refine .mk (λx c=>⟨?_,b.1 x c⟩) (λf a=>?_)
  ·have:=dh Tm.acU c;unfold Tm.err;rw[cO (h1 x c),cK VW]
  ·have:=dh Fm.acU a;exact d f a VW (g f a) (b.2 f a)
def KS:∀(n:Nat) (f:Fm) (b e:Int),f.acU<=n->f.acU<=1000000->f.ok=true->T0 f->dQ n f b (λ(s:Int) (c:Tm) (d:Int)=>jg c d s) e=some (f.wL e):=by
 intro n
 induction n with
 |zero=>intro f b e h;have:=f.dp;omega
 |succ n m=>
  intro f b e hn o p hm;cases f with
  |mk k s ts l=>
   cases hm with
   |mk q r=>
    rw[Fm.cN] at hn o;have u:=gk Tm.acU ts λt _=>t.dp;have v:=gk Fm.acU l λt _=>t.dp;obtain⟨w,z,g⟩:=Fm.s6 p;rw[dQ,Fm.Dy];simp only[Fm.dR,Fm.dd,Fm.dn,Fm.fU,c6];rw[oB VW,cH,db VW,cX];rw[Dw (E:=λy s=>jg y b s) (f:=Cn) ts 0 [] e (λx a e=>Ac (q x a) b e) aa_,cH];simp only[cU,qw,mR];rw[og,cH]
    have loop:=λi=>Dw (ρ:=Fm×Int) (E:=λy s=>dQ n y i (λ(s:Int) (c:Tm) (d:Int)=>jg c d s) s) (f:=Fm.wL) l 0 [] (p7 Cn ts e).2 (λx a e=>by
     have:=dh Fm.acU a
     exact m x i e VW VW (g x a) (r x a)) aa_
    by_cases j:jz k=true
    ·rw[cO j,db VW,cX,loop,cH];simp
    ·rw[cK j,db VW,cX,loop,cH];simp
def EG:∀(n:Nat) (f:Fm),f.acU<=n->f.acU<=1000000->T0 f->mC n f=some (if(f.wL 0).2=0 then((f.wL 0).1,0)else(fR,(f.wL 0).2)):=by
 intro n
 induction n with
 |zero=>intro f h;have:=f.dp;omega
 |succ n H=>
  intro f hn I hm;cases f with
  |mk k s ts l=>
   cases hm with
   |mk J K=>
    rw[Fm.cN] at hn I;have L:=gk Tm.acU ts λt _=>t.dp;have M:=gk Fm.acU l λt _=>t.dp;rw[mC,Fm.Dy];simp only[Fm.dR,Fm.dd,Fm.dn,Fm.fU,c6];rw[db VW,cX]
    have p:∀(us:List Tm) (j:Nat) (v:List Tm),(∀t∈us,Nm t)->v.length+us.length<=1000000000->dN (λ(N:Int) (B:Tm)=>(λ(w:List Tm)=>
       ik (la B 1000) λc E d=>
       if(dw d 0) then(
       some (.ret ((Fm.mk 0 (Ty.mk 0 []) [] []),d)))
       else(fD (eJ w [c])<|some ((.next (fa w [c])):eL (List Tm) (Fm×Int))))) us j v=some (if(p7 Cn us 0).2=0 then .inl (v++(p7 Cn us 0).1)else .inr (fR,(p7 Cn us 0).2)):=by
     intro us
     induction us with
     |nil=>intro j v _ _;simp[p7]|cons t us q=>
      intro j v hm C;simp only[kN] at C;rw[dJ,(hm t aa4).both.2]
      have D:Cn t 0=((t.norm 1000 0).1,(t.norm 1000 0).2.2):=by unfold Cn;rw[cO rfl]
      obtain⟨y,m,a,z⟩:∃y m a,t.norm 1000 0=(y,m,a):=⟨_,_,_,rfl⟩;rw[z] at D|-;rw[ov]
      by_cases he:a=0
      ·subst he;rw[cK aaK,dS aa_,cX];simp only[cH,dW];rw[fx,q (j+1) (v++[y]) (λu hu=>hm u (by simp[hu])) aa_];simp only[p7,D];simp
      ·rw[cO (by rw[da];exact he)];simp only[p7,D];rw[ub (f:=Cn) us a (λx _ e he=>Ga he) he,cK he];rfl
    have r:∀(us:List Fm) (j:Nat) (v:List Fm),(∀t∈us,T0 t/\t.acU<=n/\t.acU<=1000000)->v.length+us.length<=1000000000->dN (λ(F:Int) (A:Fm)=>(λ(g:List Fm)=>
       cT (mC n A) λi o=>
       if(dw o 0) then(
       some (.ret ((Fm.mk 0 (Ty.mk 0 []) [] []),o)))
       else(fD (eJ g [i])<|some ((.next (fa g [i])):eL (List Fm) (Fm×Int))))) us j v=some (if(p7 Fm.wL us 0).2=0 then .inl (v++(p7 Fm.wL us 0).1)else .inr (fR,(p7 Fm.wL us 0).2)):=by
     intro us
     induction us with
     |nil=>intro j v _ _;simp[p7]|cons t us q=>
      intro j v hm C;simp only[kN] at C;obtain⟨a1,a2,a3⟩:=hm t aa4;rw[dJ,H t a2 a3 a1];obtain⟨y,a,z⟩:∃y a,t.wL 0=(y,a):=⟨_,_,rfl⟩;rw[z]
      by_cases he:a=0
      ·subst he;simp only[if_true];rw[cJ,cK aaK,dS aa_,cX];simp only[cH,dW];rw[fx,q (j+1) (v++[y]) (λu hu=>hm u (by simp[hu])) aa_];simp only[p7,z];simp
      ·simp only[cK he];rw[cJ,cO (by rw[da];exact he)];simp only[p7,z];rw[ub (f:=Fm.wL) us a (λx _ e he=>Fm.KP x e he) he,cK he];rfl
    rw[p ts 0 [] J aa_,cH]
    by_cases he:(p7 Cn ts 0).2=0
    ·rw[cO he,cU,db VW,cX,r l 0 [] (λt G=>by
      have:=dh Fm.acU G
      exact⟨K t G,VW,VW⟩) aa_,cH,he]
     by_cases b:(p7 Fm.wL l 0).2=0
     ·rw[cO b,cO b,cU,mR,mR]
     ·rw[cK b,cK b,pK]
    ·rw[cK he,pK,ub (f:=Fm.wL) l _ (λx _ e he=>Fm.KP x e he) he,cK he]
def Ty.ZG:∀(n:Nat) (s:Ty),s.acU<=n->s.err=0->∃a,dG [] a s:=by
 intro n
 induction n with
 |zero=>intro s h;have:=s.dp;omega
 |succ n c=>
  intro s hn he;rcases Ty.qQ he with rfl|rfl|rfl|⟨a,b,rfl,e,d⟩|⟨a,b,rfl,e,d⟩
  ·exact⟨_,.zero⟩
  ·exact⟨_,.nil⟩
  ·exact⟨_,.unit⟩
  ·rw[Ty.vd] at hn;obtain⟨x,f⟩:=c a VW e;obtain⟨y,hy⟩:=c b VW d;exact⟨_,.pair he f hy⟩
  ·rw[Ty.iX] at hn;obtain⟨y,hy⟩:=c b VW d;exact⟨_,.lam he (by have:=hy.front [a];simpa using this)⟩
def j1.down{g:List Ty}{s:Ty}{f:Fm}(h:j1 (g++[s]) f)(hs:s.err=0)(c:f.ac0 0=0):j1 g (f.up 1 (-1)):=by
 obtain⟨a,d⟩:=Ty.ZG _ s (gu _) hs
 have b:dG g a s:=by simpa using d.front g
 have:=h.put b
 rwa [Fm.BR a f 0 h.ok c] at this
def dG.nm{g:List Ty}{x:Tm}{t:Ty}(h:dG g x t)(hg:g.length<=1000000)(a:x.acU<=4096):Nm x:=by
 refine⟨?_,h.acY _ VW⟩;unfold Tm.err;rw[cO h.ok,cK VW]
def Sb{g:List Ty}{x:Tm}{t:Ty}(h:dG g x t)(hg:g.length<=1000000)(b:x.acU<=4096){e:Int}(he:(Cn x e).2=0):e=0/\dG g (Cn x e).1 t/\(Cn x e).1.acU<=4096:=by
 by_cases c:e=0
 ·subst c;unfold Cn at he|-;simp only[if_true] at he|-;obtain⟨a,n,f,d⟩:∃a n f,x.norm 1000 0=(a,n,f):=⟨_,_,_,rfl⟩;rw[d] at he|-;simp only[] at he|-;subst he;exact⟨trivial,dG.norm _ _ _ _ _ h d,(Kk 1000 536870912 0 x a n VW (Sm.start (h.nm hg b).err (h.nm hg b).acY) b d).2⟩
 ·rw[Ga c] at he;exact absurd he c
def Uz(a b:Tm)(e:Int):(Fm.mk 1 .z [a,b] []).wL e=(.mk 1 .z [(Cn a e).1,(Cn b (Cn a e).2).1] [],(Cn b (Cn a e).2).2):=by rw[Fm.Dy];rfl
def UG(k:Int)(a b:Fm)(e:Int):(Fm.mk k .z [] [a,b]).wL e=(.mk k .z [] [(a.wL e).1,(b.wL (a.wL e).2).1],(b.wL (a.wL e).2).2):=by rw[Fm.Dy];rfl
def ZX(k:Int)(s:Ty)(a:Fm)(e:Int):(Fm.mk k s [] [a]).wL e=(.mk k s [] [(a.wL e).1],(a.wL e).2):=by rw[Fm.Dy];rfl
def Nt{g:List Ty}{f:Fm}(h:j1 g f):∀(e:Int),g.length+f.acU<=1000000->f.acU<=4096->(f.wL e).2=0->e=0/\j1 g (f.wL e).1/\(f.wL e).1.acU<=3000*f.acU:=by
 induction h with
 |@eq g a b h1 m=>
  intro e hg hn he;rw[Uz] at he|-;rw[Fm.cN] at hn hg|-;simp only[c_] at hn hg|-;obtain⟨c,d,n⟩:=Sb m VW VW he;obtain⟨a1,a2,a3⟩:=Sb h1 VW VW c;refine⟨a1,.eq a2 d,?_⟩;rw[Fm.cN];simp only[c_];have:=a.dp;have:=b.dp;omega
 |@two g k a b i h1 m j l=>
  intro e hg hn he;rw[UG] at he|-;rw[Fm.cN] at hn hg|-;simp only[c_] at hn hg|-;obtain⟨c,d,n⟩:=l _ VW VW he;obtain⟨a1,a2,a3⟩:=j _ VW VW c;refine⟨a1,.two i a2 d,?_⟩;rw[Fm.cN];simp only[c_];omega
 |@q g k s a i hs h1 o=>
  intro e hg hn he;rw[ZX] at he|-;rw[Fm.cN] at hn hg|-;simp only[c_] at hn hg|-;obtain⟨a1,a2,a3⟩:=o _ aa_ VW he;refine⟨a1,.q i hs a2,?_⟩;rw[Fm.cN];simp only[c_];omega
noncomputable def F_ (f:Fm):Fm×Int:=if f.ac0 0=0 then(f.up 1 (-1),0)else if(f.wL 0).2≠0 then(fR,(f.wL 0).2)else if(f.wL 0).1.ac0 0≠0 then(fR,6)else((f.wL 0).1.up 1 (-1),0)
def SD{g:List Ty}{s:Ty}{f:Fm}(h:Hg (g++[s]) f)(hg:g.length<=1000)(hs:s.err=0)(a:(F_ f).2=0):j1 g (F_ f).1/\(F_ f).1.acU<=3000*4096:=by
 have hn:=h.acU;unfold F_ at a|-
 split
 ·rename_i b;refine⟨h.ty.down hs b,?_⟩;show(f.up 1 (-1)).acU<=_;rw[Fm.qt];omega
 ·rename_i b;rw[cK b] at a
  split
  ·rename_i h1;rw[cO h1] at a;exact absurd a h1
  ·rename_i h1;rw[cK h1] at a
   split
   ·rename_i c;rw[cO c] at a;cases a
   ·rename_i c;obtain⟨_,a2,a3⟩:=Nt h.ty 0 aa_ hn (zq.1 h1);refine⟨a2.down hs VW,?_⟩;show((f.wL 0).1.up 1 (-1)).acU<=_;rw[Fm.qt];omega
def vz{g:List Ty}{s:Ty}{f:Fm}(h:Hg (g++[s]) f)(hg:g.length<=1000):lV f=some (F_ f):=by
 have hn:=h.acU;have k:f.acY 1000000000000=true:=h.ty.acY _ aa_;unfold lV F_;rw[pP h.ok VW k VW VW,cH]
 by_cases d:f.ac0 0=0
 ·rw[cO d,cO (by rw[eW];omega),sZ h.ok VW k d];rfl
 ·rw[cK d,cK (by rw[eW];omega),KS FU f 0 0 (by rw[dO];omega) VW h.ok (T0.of f hn h.ok (h.ty.acY _ aa_))];obtain⟨a,e,i⟩:∃a e,f.wL 0=(a,e):=⟨_,_,rfl⟩;rw[i,cJ];simp only[]
  by_cases he:e=0
  ·subst he;rw[cK aaK,cK aaK];have b:=Nt h.ty 0 aa_ hn (by rw[i]);rw[i] at b;obtain⟨_,a2,a3⟩:=b;have a2:j1 (g++[s]) a:=a2;have a3:a.acU<=3000*f.acU:=a3;have c:a.acY 1000000000000=true:=a2.acY _ aa_;rw[pP a2.ok VW c VW VW,cH]
   by_cases j:a.ac0 0=0
   ·rw[cK (by rw[eV];omega),cK (by simpa using j),sZ a2.ok VW c j];rfl
   ·rw[cO (by rw[eV];omega),cO j];rfl
  ·rw[cO (by rw[da];exact he),cO he];rfl
abbrev PR:=(Fm×Nat)⊕Int
def pbind(r:PR)(k:Fm->Nat->PR):PR:=match r with|.inl p=>k p.1 p.2|.inr e=>.inr e
def wq(c:Prop)[Decidable c](e:Int)(r:PR):PR:=if c then .inr e else r
theorem kG{c:Prop}[Decidable c]{e:Int}{r:PR}(h:c):wq c e r=.inr e:=cO h
def mY{c:Prop}[Decidable c]{e:Int}{r:PR}(h:¬c):wq c e r=r:=cK h
def k_(e:Int)(r:PR):PR:=if e=0 then r else .inr e
@[simp] theorem fZ(f:Fm)(m:Nat)(k:Fm->Nat->PR):pbind (.inl (f,m)) k=k f m:=rfl
def ic{e:Int}{r:PR}(h:e=0):k_ e r=r:=cO h
def jo{e:Int}{r:PR}(h:e≠0):k_ e r=.inr e:=cK h
noncomputable def Nh (r:PR):PR:=pbind r λf m=>if f.err=0 then .inl (f,if f.has then m else 0)else .inr 4
def G6(r:PR)(k:Int):PR:=pbind r λf m=>if f.acS=k then .inl (f,m)else .inr 10
noncomputable def E2 (a b:Fm):Int:=(iV a b).getD 0
noncomputable def JZ (r:PR) (F:Fm) (t:Tm):PR:=pbind r λf m=>k_ (oK F t).2 (k_ (E2 (oK F t).1 f) (.inl (f,m)))
def IA(t:Tm):Nat->Nat
 |0=>0|j+1=>if 0<t.ac0 j then IA t j|||2^j else IA t j
def yh(t:Tm):Nat:=IA t 32
def IJ(t:Tm):∀(n i:Nat),(IA t n).testBit i=true↔i<n/\0<t.ac0 i
 |0,i=>by simp[IA]|n+1,i=>by
  have c:=IJ t n i;rw[IA]
  by_cases h:0<t.ac0 n
  ·rw[cO h,adz,r5,c,adu];simp only[oI];constructor
   ·rintro(⟨a,b⟩|rfl)
    ·exact⟨VW,b⟩
    ·exact⟨VW,h⟩
   ·rintro⟨a,b⟩
    by_cases hi:n=i
    ·exact .inr hi
    ·exact .inl ⟨VW,b⟩
  ·rw[cK h,c];constructor
   ·rintro⟨a,b⟩;exact⟨VW,b⟩
   ·rintro⟨a,b⟩;refine⟨?_,b⟩;rcases qu i n with hh|hh
    ·exact hh
    ·obtain rfl:i=n:=VW
     exact absurd b h
def Qh(t:Tm)(i:Nat):(yh t).testBit i=true↔i<32/\0<t.ac0 i:=IJ t 32 i
def v0:Tm:=.mk 1 0 (.mk 0 []) []
def v1:Tm:=.mk 1 1 (.mk 0 []) []
noncomputable def pA (L:List Fm) (k i:Int) (s:Ty) (ts:List Tm) (fs:List Fm) (sub:Nat->List Ty->List Fm->PR) (g:List Ty) (hs:List Fm):PR:=
 let t:=ts.getD 0 Tm.z
 let F:=fs.getD 0 fR
 if k=1 then wq ((hs.length:Int)<=i) 8 (.inl (hs.getD (hs.length-1-i.toNat) fR,0))
 else if k=2 then wq ((L.length:Int)<=i) 9 (.inl (L.getD i.toNat fR,0))
 else if k=3 then pbind (sub 0 g hs) λa m=>pbind (sub 1 g hs) λb n=>.inl (.mk 2 .z [] [a,b],m|||n)
 else if k=4 then pbind (G6 (sub 0 g hs) 2) λa m=>.inl (a.acT.getD 0 fR,m)
 else if k=5 then pbind (G6 (sub 0 g hs) 2) λa m=>.inl (a.acT.getD 1 fR,m)
 else if k=6 then k_ (F.vn g) (wq (16<hs.length+1) 3 (pbind (sub 0 g (hs++[F])) λb m=>.inl (.mk 3 .z [] [F,b],m)))
 else if k=7 then pbind (G6 (sub 0 g hs) 3) λa m=>pbind (sub 1 g hs) λb n=>k_ (E2 (a.acT.getD 0 fR) b) (.inl (a.acT.getD 1 fR,m|||n))
 else if k=8 then wq (16<g.length+1) 3 (pbind (sub 0 (g++[s]) (hs.map (Fm.up 0 1))) λb m=>.inl (.mk 4 s [] [b],m/2))
 else if k=12 then wq (16<g.length+1) 3 (pbind (sub 0 (g++[s]) (hs.map (Fm.up 0 1))) λb m=>wq (m.testBit 0=true) 12 (.inl (.mk 6 s [] [b],m/2)))
 else if k=9 then k_ (t.ty g).2 (pbind (G6 (sub 0 g hs) 4) λa m=>wq ((t.ty g).1.nw a.cP=false) 7 (k_ (oK (a.acT.getD 0 fR) t).2 (.inl ((oK (a.acT.getD 0 fR) t).1,m|||yh t))))
 else if k=13 then k_ (t.ty g).2 (pbind (G6 (sub 0 g hs) 6) λa m=>wq ((t.ty g).1.nw a.cP=false) 7 (k_ (oK (a.acT.getD 0 fR) t).2 (.inl ((oK (a.acT.getD 0 fR) t).1,m))))
 else if k=10 then k_ (F.vn g) (wq (F.acS≠5) 10 (k_ (t.ty g).2 (wq ((t.ty g).1.nw F.cP=false) 7 (pbind (JZ (sub 0 g hs) (F.acT.getD 0 fR) t) λ_ m=>.inl (F,m|||yh t)))))
 else if k=14 then k_ (F.vn g) (wq (F.acS≠7) 10 (k_ (t.ty g).2 (wq ((t.ty g).1.nw F.cP=false) 7 (pbind (JZ (sub 0 g hs) (F.acT.getD 0 fR) t) λ_ m=>.inl (F,m)))))
 else if k=11 then pbind (G6 (sub 0 g hs) 5) λa m=>wq (16<g.length+1\/16<hs.length+1) 3 (pbind (sub 1 (g++[a.cP]) (hs.map (Fm.up 0 1)++[a.acT.getD 0 fR])) λb n=>k_ (F_ b).2 (.inl ((F_ b).1,m|||n/2)))
 else if k=15 then pbind (G6 (sub 0 g hs) 7) λa m=>wq (16<g.length+1\/16<hs.length+1) 3 (pbind (sub 1 (g++[a.cP]) (hs.map (Fm.up 0 1)++[a.acT.getD 0 fR])) λb n=>k_ (F_ b).2 (wq (n.testBit 0=true) 12 (.inl ((F_ b).1,m|||n/2))))
 else if k=16 then k_ (F.vn (g++[.nat])) (k_ (oN t g 1) (pbind (JZ (sub 0 g hs) F xP) λ_ m=>wq (16<g.length+1\/16<hs.length+1) 3 (
  pbind (JZ (sub 1 (g++[.nat]) (hs.map (Fm.up 0 1)++[F])) (F.up 1 1) (jL v0)) λ_ n=>k_ (oK F t).2 (.inl ((oK F t).1,(yh t|||m)|||n/2)))))
 else if k=17 then k_ (F.vn (g++[.o6])) (k_ (oN t g 2) (pbind (JZ (sub 0 g hs) F (.mk 7 0 .z [])) λ_ m=>wq (16<g.length+2\/16<hs.length+1) 3 (
  pbind (JZ (sub 1 (g++[.nat]++[.o6]) (hs.map (Fm.up 0 2)++[F.up 1 1])) (F.up 1 2) (.mk 8 0 .z [v1,v0])) λ_ n=>k_ (oK F t).2 (.inl ((oK F t).1,(yh t|||m)|||n/4)))))
 else if k=18 then k_ (oN t g 1) (.inl (.mk 1 .z [t,t] [],0))
 else if k=19 then k_ (F.vn (g++[.nat])) (pbind (G6 (sub 0 g hs) 1) λa _=>pbind (JZ (sub 1 g hs) F (a.c9.getD 0 Tm.z)) λ_ n=>k_ (oK F (a.c9.getD 1 Tm.z)).2 (.inl ((oK F (a.c9.getD 1 Tm.z)).1,n)))
 else pbind (G6 (sub 0 g hs) 4) λa m=>wq ((a.acT.getD 0 fR).acS≠5) 10 (wq ((Ty.fn a.cP (a.acT.getD 0 fR).cP).err≠0) 4 (wq ((oK (((a.acT.getD 0 fR).acT.getD 0 fR).up 2 1) (iI v1 v0)).2≠0) 4 (.inl (.mk 5 (Ty.fn a.cP (a.acT.getD 0 fR).cP) [] [.mk 4 a.cP [] [(oK (((a.acT.getD 0 fR).acT.getD 0 fR).up 2 1) (iI v1 v0)).1]],m))))
mutual
noncomputable def Pf.inf (L:List Fm):Pf->List Ty->List Fm->PR
 |.mk k i s ts fs l,g,hs=>Nh (pA L k i s ts fs (Pf.tO L l) g hs)
noncomputable def Pf.tO (L:List Fm):List Pf->Nat->List Ty->List Fm->PR
 |[],_,_,_=>.inr 2|p::_,0,g,hs=>p.inf L g hs|_::l,n+1,g,hs=>Pf.tO L l n g hs
end
def IRs(g:List Ty)(s:PR)(k:Option (cL×Int))(r:Option (p_×Int)):Prop:=
 (∃e,e≠0/\s=.inr e/\k=some (⟨fR,0⟩,e)/\r=some (⟨fR,[]⟩,e))\/∃(f:Fm) (m:Nat) (l:List Int),s=.inl (f,m)/\k=some (⟨f,(m:Int)⟩,0)/\r=some (⟨f,l⟩,0)/\Us l m/\Hg g f
def kV(g:List Ty)(s:PR)(k:Option (cL×Int))(r:Option (Fm×List Int×Int)):Prop:=
 (∃e x f l,e≠0/\s=.inr e/\k=some (x,e)/\r=some (f,l,e))\/∃(f:Fm) (m:Nat) (l:List Int),s=.inl (f,m)/\k=some (⟨f,(m:Int)⟩,0)/\r=some (f,l,0)/\Us l m/\j1 g f/\f.acU<=15000000
theorem kV.no{g:List Ty}{s:PR}{k:Option (cL×Int)}{r:Option (Fm×List Int×Int)}{e:Int}{x:cL}{f:Fm}{l:List Int}(he:e≠0)(h1:s=.inr e)(a:k=some (x,e))(b:r=some (f,l,e)):kV g s k r:=.inl ⟨e,x,f,l,he,h1,a,b⟩
def kV.yes{g:List Ty}{s:PR}{k:Option (cL×Int)}{r:Option (Fm×List Int×Int)}{f:Fm}{m:Nat}{l:List Int}(h1:s=.inl (f,m))(a:k=some (⟨f,(m:Int)⟩,0))(b:r=some (f,l,0))(c:Us l m)(d:j1 g f)(e:f.acU<=15000000):kV g s k r:=.inr ⟨f,m,l,h1,a,b,c,d,e⟩
def kV.infer{g:List Ty}(hg:g.length<=16){s:PR}{k:Option (cL×Int)}{r:Option (Fm×List Int×Int)}(h:kV g s k r):IRs g (Nh s) (Nf k) (M7 r):=by
 rcases h with⟨e,x,f,l,he,rfl,rfl,rfl⟩|⟨f,m,l,rfl,rfl,rfl,hu,b,hn⟩
 ·refine .inl ⟨e,he,rfl,?_,?_⟩
  ·unfold Nf;rw[cJ,cO (by rw[da];exact he)];rfl
  ·unfold M7;rw[ov,cO (by rw[da];exact he)];rfl
 ·have c:=b.ok;have hw:=f.iN c;have i:=b.acY 1000000000000 VW;have d:Nh (.inl (f,m))=if f.err=0 then .inl (f,if f.has then m else 0)else .inr 4:=rfl;unfold Nf M7;rw[cJ,ov];simp only[c6];rw[cK aaK,cK aaK,nB VW,lU VW,cH,cH]
  by_cases a:f.err=0
  ·rw[cK (by rw[da];simp[a]),cK (by rw[da];simp[a]),CU VW i,Dc _ VW,d,cO a];rw[cK (show¬(f.err≠0) by simpa using a),cJ,cJ];cases f.has with
   |true=>exact .inr ⟨f,m,l,rfl,rfl,rfl,hu,⟨a,b⟩⟩|false=>exact .inr ⟨f,0,[],rfl,rfl,rfl,.nil,⟨a,b⟩⟩
  ·rw[cO (by rw[da];exact a),cO (by rw[da];exact a),d,cK a];exact .inl ⟨4,aaK,rfl,rfl,rfl⟩
def iA(L:List Fm)(P:Pf)(N:Nat):Prop:=∀n n',N<=n->N<=n'->∀p c,PG L p c->IRs c.acW (P.inf L c.acW c.acZ) (dC n L P p) (dj n' c P)
def mm{g:List Ty}{s:PR}{n:Nat}{L:List Fm}{P:Pf}{p:cQ}{r:Option (p_×Int)}(h:IRs g s (dC n L P p) r)(k:Int):(∃e,e≠0/\G6 s k=.inr e/\dB (n+1) L P p k=some (⟨fR,0⟩,e)/\((r=some (⟨fR,[]⟩,e))\/∃f l m,r=some (⟨f,l⟩,0)/\f.acS≠k/\e=10/\Us l m))\/∃(f:Fm) (m:Nat) (l:List Int),G6 s k=.inl (f,m)/\dB (n+1) L P p k=some (⟨f,(m:Int)⟩,0)/\r=some (⟨f,l⟩,0)/\Us l m/\Hg g f/\f.acS=k:=by
 rcases h with⟨e,he,h1,c,a⟩|⟨f,m,l,h1,c,a,hu,d⟩
 ·refine .inl ⟨e,he,by rw[h1];rfl,?_,.inl a⟩
  grind[dB,cJ,oR,eW]
 ·by_cases b:f.acS=k
  ·grind[G6,fZ,dB,cJ,oR,da]
  ·refine .inl ⟨10,aaK,by rw[h1];unfold G6;rw[fZ,cK b],?_,.inr ⟨f,l,m,a,b,rfl,hu⟩⟩;rw[dB,c,cJ,cO (by rw[oR,ft,da,eW];exact⟨rfl,b⟩)];rfl
def JM{a b:Fm}(d:a.wt<=1000000000)(e:b.wt<=1000000000):iV a b=some (E2 a b)/\lx a b=some (E2 a b):=by
 obtain⟨c,h1,f⟩:=AM d e
 have:E2 a b=c:=by unfold E2;rw[h1];rfl
 grind
structure sa (g:List Ty) (F:Fm) (t:Tm):Prop where
 fe:F.err=0
 te:t.err=0
 ty:∃s,j1 (g++[s]) F/\dG g t s
def sa.put{g:List Ty}{F:Fm}{t:Tm}(h:sa g F t):j1 g (Fm.nj 0 F t):=by
 obtain⟨s,h1,a⟩:=h.ty;exact h1.put a
def sa.both{g:List Ty}{F:Fm}{t:Tm}(h:sa g F t)(hg:g.length<=100):gZ F t=some (oK F t)/\iQ F t=some (oK F t):=by
 obtain⟨s,h1,c⟩:=h.ty;obtain⟨_,a2⟩:=Fm.fS h.fe;obtain⟨_,d⟩:=Tm.fS h.te;have a:F.acY 536870912=true:=h1.acY _ aa_;have b:t.acY 536870912=true:=c.acY _ VW;refine⟨H4 h.fe h.te (Fm.lT F VW a) (Tm.lT t VW b),?_⟩;unfold iQ;rw[F6 h.fe h.te a b h.put.ok];rfl
def qM(F:Fm)(t:Tm):oK F t=(fR,4)\/(Fm.nj 0 F t).acU<=4096/\oK F t=(Fm.nj 0 F t,0):=by
 unfold oK
 split
 ·exact .inl rfl
 ·grind
def sb{g:List Ty}(hg:g.length<=16){s:PR}{n n':Nat}{L:List Fm}{P:Pf}{p:cQ}{c:cS}(h:IRs g s (dC n L P p) (dj n' c P)){F:Fm}{t:Tm}(o:sa g F t):(∃e x l m,e≠0/\JZ s F t=.inr e/\dD (n+1) L P p F t=some (x,e)/\d_ (n'+1) c P F t=some (l,e)/\Us l m)\/∃(f:Fm) (m:Nat) (l:List Int),JZ s F t=.inl (f,m)/\dD (n+1) L P p F t=some (⟨f,(m:Int)⟩,0)/\d_ (n'+1) c P F t=some (l,0)/\Us l m:=by
 obtain⟨i,k2⟩:=o.both VW;rcases h with⟨e,he,h1,j,k⟩|⟨f,m,l,h1,j,k,hu,q⟩
 ·refine .inl ⟨e,⟨fR,0⟩,[],0,he,by rw[h1];rfl,?_,?_,.nil⟩
  ·rw[dD,j,cJ,cO (by rw[da];exact he)];rfl
  ·rw[d_,k,cJ,cO (by rw[da];exact he)]
 ·rcases qM F t with d|⟨hn,d⟩
  ·rw[d] at i k2;refine .inl ⟨4,⟨fR,0⟩,[],0,aaK,?_,?_,?_,.nil⟩
   ·rw[h1];unfold JZ;rw[fZ,d];rfl
   ·rw[dD,j,cJ,cK aaK,i,cJ,cO aaK];rfl
   ·rw[d_,k,cJ,cK aaK,k2,cJ,cO aaK]
  ·rw[d] at i k2;have A:=Fm.iN _ o.put.ok;have B:=Fm.iN _ q.ok;have r:=q.acU;obtain⟨u,v⟩:=JM (a:=Fm.nj 0 F t) (b:=f) VW VW
   have w:JZ s F t=k_ (E2 (Fm.nj 0 F t) f) (.inl (f,m)):=by rw[h1];unfold JZ;rw[fZ,d,ic rfl]
   have y:dD (n+1) L P p F t=some (⟨f,(m:Int)⟩,E2 (Fm.nj 0 F t) f):=by
    rw[dD,j,cJ,cK aaK,i,cJ,cK aaK,u,cH]
   have z:d_ (n'+1) c P F t=some (l,E2 (Fm.nj 0 F t) f):=by
    rw[d_,k,cJ,cK aaK,k2,cJ,cK aaK,v,cH]
   rw[w,y,z]
   by_cases hm:E2 (Fm.nj 0 F t) f=0
   ·rw[ic hm,hm];exact .inr ⟨f,m,l,rfl,rfl,rfl,hu⟩
   ·rw[jo hm];exact .inl ⟨_,_,_,m,hm,rfl,rfl,rfl,hu⟩
theorem Fc{g:List Ty}(h:jd g)(hg:g.length<=16):wh g=0:=by
 unfold wh;rw[cK VW]
 induction g with
 |nil=>rfl|cons s g a=>
  have h1:=h s aa4;simp only[wb,fK];rw[cO h1];exact a (λx b=>h x (by simp[b])) (by simp at hg;omega)
def sn{g:List Ty}(a:jd g)(hg:g.length<=17){F:Fm}(hF:F.err=0):dy FU (g.map sg) F=some (F.vn g)/\jV g F=some (F.vn g)/\(g.length<=16->iH g F=some (F.vn g)):=by
 obtain⟨a1,a2⟩:=Fm.fS hF;have hw:=F.iN a1;refine⟨vB F a1 FU (by rw[dO];omega) g a VW a2,?_,λb=>?_⟩
 ·unfold jV;rw[lU VW,hF,cH,cK aaK,zh F a1 FU (by rw[dO];omega) g a VW a2];rfl
 ·rw[r7 VW VW (λt c=>by have:=ec (a t c);omega)];unfold F3
  grind[Fc]
def mz{g:List Ty}(a:jd g)(hg:g.length<=16){t:Tm}(b:t.err=0):dz FU (g.map sg) t=some (Hb (t.ty g))/\jC g t=some (t.ty g):=by
 obtain⟨a1,a2⟩:=Tm.fS b;refine⟨wA a1 a VW,?_⟩;unfold jC;rw[sx g VW (λt b=>by have:=ec (a t b);omega),Fc a hg,yO a1 a2 a VW];rfl
def has_both{g:List Ty}(b:jd g)(hg:g.length<=16){c:cS}(a:c.acW=g){t:Tm}(d:t.err=0)(k:Int):gG (g.map sg) t k=some (oN t g k)/\fX c t k=some (oN t g k):=by
 obtain⟨a1,a2⟩:=Tm.fS d;refine⟨Az k a1 b VW,?_⟩;unfold fX oN;rw[a,(mz b hg d).2]
 grind[cJ,da]
def wJ{g:List Ty}(hg:g.length<=16){t:Tm}{s:Ty}(h:dG g t s)(b:t.err=0):∃l,jj t=some (yh t:Int)/\jA t=some l/\Us l (yh t):=by
 obtain⟨a1,a2⟩:=Tm.fS b;have a:∀j:Int,32<=j->t.ac0 j=0:=λj e=>h.M4 j VW;obtain⟨l,m,h1,f,c,d⟩:=Uc b (h.acY _ VW) a
 have:m=yh t:=by
  refine adJ λi=>?_;rw[DQ,<-c.mem i,d,Qh]
  grind
 grind
def nz:¬dw 0 0=true:=aaK
def qn(n:Nat)(a0:List Fm)(a1:Pf)(a2:cQ):Option (cL×Int):=
 if dg a1.acS 1 then n_ a0 a1 a2 else(if dg a1.acS 2 then mN a0 a1 a2 else(if dg a1.acS 3 then jN n a0 a1 a2 else(if dg a1.acS 4 then gq n a0 a1 a2 else(if dg a1.acS 5 then gq n a0 a1 a2 else(if dg a1.acS 6 then jP n a0 a1 a2 else(if dg a1.acS 7 then jM n a0 a1 a2 else(if dg a1.acS 8 then fW n a0 a1 a2 else(if dg a1.acS 12 then fW n a0 a1 a2 else(if dg a1.acS 9 then fY n a0 a1 a2 else(if dg a1.acS 13 then fY n a0 a1 a2 else(if dg a1.acS 10 then gm n a0 a1 a2 else(if dg a1.acS 14 then gm n a0 a1 a2 else(if dg a1.acS 11 then gn n a0 a1 a2 else(if dg a1.acS 15 then gn n a0 a1 a2 else(if dg a1.acS 16 then j9 n a0 a1 a2 else(if dg a1.acS 17 then j9 n a0 a1 a2 else(if dg a1.acS 18 then m7 a0 a1 a2 else(if dg a1.acS 19 then jl n a0 a1 a2 else(if dg a1.acS 20 then jZ n a0 a1 a2 else none)))))))))))))))))))
def Pf.QZ(L:List Fm)(k i:Int)(s:Ty)(ts:List Tm)(a:List Fm)(l:List Pf)(g:List Ty)(hs:List Fm):(Pf.mk k i s ts a l).inf L g hs=Nh (pA L k i s ts a (Pf.tO L l) g hs):=by rw[Pf.inf]
def iA.of{L:List Fm}{k i:Int}{s:Ty}{ts:List Tm}{a:List Fm}{l:List Pf}{N:Nat}
  (H:∀n n',N<=n->N<=n'->∀p c,PG L p c->kV c.acW (pA L k i s ts a (Pf.tO L l) c.acW c.acZ) (qn (n+4) L (.mk k i s ts a l) p) (dc (n'+4) c (.mk k i s ts a l))):iA L (.mk k i s ts a l) (N+5):=by
 intro n n' hn d p c h;obtain⟨m,rfl⟩:∃m,n=m+5:=⟨n-5,VW⟩;obtain⟨b,rfl⟩:∃b,n'=b+5:=⟨n'-5,VW⟩;exact kV.infer h.pl.nv (H m b VW VW p c h)
def ZL(n:Nat)(c:cS)(i:Int):dc (n+1) c (.mk 1 i .z [] [] [])=if(sM i (di c.acZ)) then some (fR,[],8)else cI (de c.acZ (dZ .i64 (dZ .i64 (di c.acZ) 1) i)) λa=>some (a,[],0):=by rw[dc];rfl
def aap(L:List Fm)(i:Int)(g:List Ty)(hs:List Fm):pA L 1 i .z [] [] (Pf.tO L []) g hs=wq ((hs.length:Int)<=i) 8 (.inl (hs.getD (hs.length-1-i.toNat) fR,0)):=rfl
def aaQ(n:Nat)(L:List Fm)(i:Int)(p:cQ):qn n L (.mk 1 i .z [] [] []) p=cT (j8 p i) λa b=>if b then some (⟨a,0⟩,0)else some (⟨fR,0⟩,8):=rfl
def S9{L:List Fm}{i:Int}(hi:0<=i):iA L (.mk 1 i .z [] [] []) 5:=by
 refine iA.of (N:=0) λn n' _ _ p c h=>?_;rw[ZL,aap,aaQ];have e:=h.pl.MY hi
 by_cases d:(c.acZ.length:Int)<=i
 ·grind[kG,cJ,sM,di,ib,ej,kV.no]
 ·rw[cK d] at e;obtain⟨f,h1,j⟩:=e;rw[mY d,j,cJ,cO rfl,cK (show¬(sM i (di c.acZ)=true) by rw[ib,ej];exact d),h1,cH];have k:=h.pl.nh;rw[ej,ed (a:=(c.acZ.length:Int)) VW VW,ed VW VW] at h1
  have b:c.acZ.length-1-i.toNat<c.acZ.length:=VW
  rw[show(c.acZ.length:Int)-1-i=((c.acZ.length-1-i.toNat:Nat):Int) by omega,im,oO b] at h1
  have l:c.acZ.getD (c.acZ.length-1-i.toNat) fR=f:=by grind
  have g:=h.acZ f (by rw[<-gh h1];exact GH b);exact kV.yes (by rw[l]) rfl rfl .nil g.ty (by have:=g.acU;omega)
def ZP(n:Nat)(c:cS)(i:Int):dc (n+1) c (.mk 2 i .z [] [] [])=if(sM i (di c.lemmas)) then some (fR,[],9)else cI (de c.lemmas i) λa=>some (a,[],0):=by rw[dc];rfl
def aar(L:List Fm)(i:Int)(g:List Ty)(hs:List Fm):pA L 2 i .z [] [] (Pf.tO L []) g hs=wq ((L.length:Int)<=i) 9 (.inl (L.getD i.toNat fR,0)):=rfl
def Zn(n:Nat)(L:List Fm)(i:Int)(p:cQ):qn n L (.mk 2 i .z [] [] []) p=if(sM i (di L)) then some (⟨fR,0⟩,9)else cI (de L i) λa=>some (⟨a,0⟩,0):=rfl
def RB{L:List Fm}{i:Int}(hi:0<=i):iA L (.mk 2 i .z [] [] []) 5:=by
 refine iA.of (N:=0) λn n' _ _ p c h=>?_;rw[ZP,aar,Zn,h.N9]
 by_cases b:(L.length:Int)<=i
 ·grind[kG,ib,ej,kV.no]
 ·obtain⟨k,rfl⟩:∃k:Nat,i=k:=⟨i.toNat,VW⟩
  have a:k<L.length:=VW
  rw[mY b,cK (by rw[ib,ej];exact b),cK (by rw[ib,ej];exact b),im,oO a,cH,cH]
  have e:L.getD (k:Int).toNat fR=L[k]:=by grind
  have d:=h.W0 _ (GH a);exact kV.yes (by rw[e]) rfl rfl .nil (by simpa using d.ty.front c.acW) (by have:=d.acU;omega)
def WL(n:Nat)(c:cS)(a b:Pf):dc (n+1) c (.mk 3 0 .z [] [] [a,b])=cT (dj n c a) λd e=>if(dw e 0) then some (fR,[],e)else cT (dj n c b) λf g=>cI (nq 2 d.cR f.cR) λh=>cI (fj d.fk f.fk) λi=>some (h,i,g):=by rw[dc];rfl
def Xh(L:List Fm)(a b:Pf)(g:List Ty)(hs:List Fm):pA L 3 0 .z [] [] (Pf.tO L [a,b]) g hs=pbind (a.inf L g hs) λf m=>pbind (b.inf L g hs) λc n=>.inl (.mk 2 .z [] [f,c],m|||n):=rfl
def WT(n:Nat)(L:List Fm)(a b:Pf)(p:cQ):qn (n+1) L (.mk 3 0 .z [] [] [a,b]) p=cT (dC n L a p) λc d=>if(dw d 0) then some (⟨fR,0⟩,d)else cT (dC n L b p) λe f=>if(dw f 0) then some (⟨fR,0⟩,f)else some (⟨.mk 2 .z [] [c.cR,e.cR],x0 .u32 c.fk e.fk⟩,0):=by
 show jN (n+1) L (.mk 3 0 .z [] [] [a,b]) p=_;rw[jN];rfl
def NT:fR.wt<=1000000:=aaK
def Qu{L:List Fm}{a b:Pf}{N:Nat}(s:iA L a N)(t:iA L b N):iA L (.mk 3 0 .z [] [] [a,b]) (N+5):=by
 refine iA.of λn n' hn u p c h=>?_;rw[WL,Xh,WT];rcases s (n+3) (n'+3) VW VW p c h with⟨e,he,h1,d,g⟩|⟨f,m,l,h1,d,g,hu,k⟩
 ·rw[h1,d,g,cJ,cJ,cO (by rw[da];exact he),cO (by rw[da];exact he)];exact kV.no he rfl rfl rfl
 ·have v:=k.acU;have w:=f.iN k.ok;rw[h1,d,g,cJ,cJ,cK aaK,cK aaK,fZ];rcases t (n+3) (n'+3) VW VW p c h with⟨e,he,h1,d,g⟩|⟨x,B,C,h1,d,g,j,i⟩
  ·obtain⟨q,q1,_⟩:=hu.union .nil (by have:=hu.len;omega) aa4;have:=NT;rw[h1,d,g,cJ,cJ,cO (by rw[da];exact he)];simp only[];rw[F4 VW VW,cH,q1];exact kV.no he rfl rfl rfl
  ·have o:=i.acU;have r:=x.iN i.ok;obtain⟨q,q1,y,A,_⟩:=hu.union j (by have:=hu.len;omega) (by have:=j.len;omega);rw[h1,d,g,cJ,cJ,cK aaK,fZ];simp only[];rw[F4 VW VW,cH,q1,y];refine kV.yes rfl rfl rfl A (.two (.inl rfl) k.ty i.ty) ?_;rw[Fm.cN];simp only[c_];omega
def j1.QE{g:List Ty}{f:Fm}(h:j1 g f){k:Int}(d:f.acS=k)(e:k=2\/k=3):∃a b,f=.mk k .z [] [a,b]/\j1 g a/\j1 g b:=by
 cases h with
 |eq _ _=>grind[Fm.dn]|two c i j=>grind[Fm.dn]|q c _ _=>grind[Fm.dn]
def j1.Eb{g:List Ty}{f:Fm}(h:j1 g f){k:Int}(d:f.acS=k)(e:k=4\/k=5\/k=6\/k=7):∃s a,f=.mk k s [] [a]/\s.err=0/\j1 (g++[s]) a:=by
 cases h with
 |eq _ _=>grind[Fm.dn]|two b c i=>grind[Fm.dn]|q b hs c=>grind[Fm.dn]
def j1.ZD{g:List Ty}{f:Fm}(h:j1 g f)(i:f.acS=1):∃a b,f=.mk 1 .z [a,b] []/\dG g a .nat/\dG g b .nat:=by
 cases h with
 |eq d e=>grind|two c d e=>simp_all|q c hs d=>simp_all
def Hg.sub{g a:List Ty}{k:Int}{s:Ty}{ts:List Tm}{l:List Fm}(h:Hg g (.mk k s ts l)){x:Fm}(c:x∈l)(b:j1 a x):Hg a x:=by
 have h1:=h.acU;rw[Fm.cN] at h1;have:=dh Fm.acU c;refine⟨?_,b⟩;unfold Fm.err;rw[cO b.ok,cK VW]
def Xw(n:Nat)(c:cS)(a:Pf):dc (n+1) c (.mk 4 0 .z [] [] [a])=cT (dj n c a) λb d=>if(dw d 0) then some (fR,[],d)else if(dw b.cR.acS 2) then some (fR,[],10)else cI (de b.cR.acT (dZ .i64 4 4)) λe=>some (e,b.fk,0):=by rw[dc];rfl
def WJ(n:Nat)(c:cS)(a:Pf):dc (n+1) c (.mk 5 0 .z [] [] [a])=cT (dj n c a) λb d=>if(dw d 0) then some (fR,[],d)else if(dw b.cR.acS 2) then some (fR,[],10)else cI (de b.cR.acT (dZ .i64 5 4)) λe=>some (e,b.fk,0):=by rw[dc];rfl
def Xn(L:List Fm)(a:Pf)(g:List Ty)(hs:List Fm):pA L 4 0 .z [] [] (Pf.tO L [a]) g hs=pbind (G6 (a.inf L g hs) 2) λf m=>.inl (f.acT.getD 0 fR,m):=rfl
def Wk(L:List Fm)(a:Pf)(g:List Ty)(hs:List Fm):pA L 5 0 .z [] [] (Pf.tO L [a]) g hs=pbind (G6 (a.inf L g hs) 2) λf m=>.inl (f.acT.getD 1 fR,m):=rfl
def XD(n:Nat)(L:List Fm)(a:Pf)(p:cQ):qn (n+1) L (.mk 4 0 .z [] [] [a]) p=cT (dB n L a p 2) λb c=>if(dw c 0) then some (⟨fR,0⟩,c)else cI (de b.cR.acT 0) λd=>some (⟨d,b.fk⟩,0):=by
 show gq (n+1) L (.mk 4 0 .z [] [] [a]) p=_;rw[gq];rfl
def V6(n:Nat)(L:List Fm)(a:Pf)(p:cQ):qn (n+1) L (.mk 5 0 .z [] [] [a]) p=cT (dB n L a p 2) λb c=>if(dw c 0) then some (⟨fR,0⟩,c)else cI (de b.cR.acT 1) λd=>some (⟨d,b.fk⟩,0):=by
 show gq (n+1) L (.mk 5 0 .z [] [] [a]) p=_;rw[gq];rfl
def Py{L:List Fm}{a:Pf}{N:Nat}(k:iA L a N):iA L (.mk 4 0 .z [] [] [a]) (N+5):=by
 refine iA.of λn n' hn o p c h=>?_;rw[Xw,Xn,XD];rcases mm (k (n+2) (n'+3) VW VW p c h) 2 with⟨e,he,h1,d,b⟩|⟨f,m,l,h1,d,b,hu,i,g⟩
 ·rw[h1,d,cJ,cO (by rw[da];exact he)];rcases b with b|⟨f,l,m,b,g,rfl,_⟩
  ·rw[b,cJ,cO (by rw[da];exact he)];exact kV.no he rfl rfl rfl
  ·rw[b,cJ,cK aaK,cO (by rw[da];exact g)];exact kV.no he rfl rfl rfl
 ·obtain⟨x,y,rfl,j,hy⟩:=i.ty.QE g (.inl rfl);rw[h1,d,b,cJ,cJ,cK aaK,cK aa4,fZ];exact kV.yes (f:=x) rfl rfl rfl hu j (by have:=(i.sub aa4 j).acU;omega)
def Qr{L:List Fm}{a:Pf}{N:Nat}(j:iA L a N):iA L (.mk 5 0 .z [] [] [a]) (N+5):=by
 refine iA.of λn n' hn k p c h=>?_;rw[WJ,Wk,V6];rcases mm (j (n+2) (n'+3) VW VW p c h) 2 with⟨e,he,h1,d,b⟩|⟨f,m,l,h1,d,b,hu,i,g⟩
 ·rw[h1,d,cJ,cO (by rw[da];exact he)];rcases b with b|⟨f,l,m,b,g,rfl,_⟩
  ·rw[b,cJ,cO (by rw[da];exact he)];exact kV.no he rfl rfl rfl
  ·rw[b,cJ,cK aaK,cO (by rw[da];exact g)];exact kV.no he rfl rfl rfl
 ·obtain⟨x,y,rfl,o,hy⟩:=i.ty.QE g (.inl rfl);rw[h1,d,b,cJ,cJ,cK aaK,cK aa4,fZ];exact kV.yes (f:=y) rfl rfl rfl hu hy (by have:=(i.sub aa4 hy).acU;omega)
def X1(n:Nat)(c:cS)(F:Fm)(a:Pf):dc (n+1) c (.mk 6 0 .z [] [F] [a])=cI (iH c.acW F) λb=>if(dw b 0) then some (fR,[],b)else cI (dq c 0 1) λd=>if(dw d 0) then some (fR,[],d)else cI (eZ c F) λf=>cT (dj n f a) λe g=>cI (nq 3 F e.cR) λh=>some (h,e.fk,g):=by rw[dc];rfl
def XH(L:List Fm)(F:Fm)(a:Pf)(g:List Ty)(hs:List Fm):pA L 6 0 .z [] [F] (Pf.tO L [a]) g hs=k_ (F.vn g) (wq (16<hs.length+1) 3 (pbind (a.inf L g (hs++[F])) λb m=>.inl (.mk 3 .z [] [F,b],m))):=rfl
def XI(n:Nat)(L:List Fm)(F:Fm)(a:Pf)(p:cQ):qn (n+1) L (.mk 6 0 .z [] [F] [a]) p=cI (dy FU p.acW F) λb=>if(dw b 0) then some (⟨fR,0⟩,b)else cI (ds p.eK 0 1) λc=>if(dw c 0) then some (⟨fR,0⟩,c)else cI (eI p F) λf=>cT (dC n L a f) λd e=>if(dw e 0) then some (⟨fR,0⟩,e)else some (⟨.mk 3 .z [] [F,d.cR],d.fk⟩,0):=by
 show jP (n+1) L (.mk 6 0 .z [] [F] [a]) p=_;rw[jP];rfl
def Pt{L:List Fm}{F:Fm}(hF:F.err=0){a:Pf}{N:Nat}(t:iA L a N):iA L (.mk 6 0 .z [] [F] [a]) (N+5):=by
 refine iA.of λn n' hn u p c h=>?_;rw[X1,XH,XI];have j:=h.pl.nv;obtain⟨t1,_,t2⟩:=sn h.pl.ctx VW hF;have w:=(Fm.fS hF).2;have x:=F.iN (Fm.fS hF).1;rw[h.pl.acW,t1,t2 j,cH,cH]
 by_cases b:F.vn c.acW=0
 ·rw[cK (by rw[da];simpa using b),cK (by rw[da];simpa using b),ic b];have i:=sq F (Fm.fS hF).1 c.acW h.pl.ctx b;rcases h.room (v:=0) (k:=1) VW VW with⟨d,g,_,s⟩|⟨d,g,s⟩
  ·have d:ds p.eK 0 1=some 0:=d;have g:dq c 0 1=some 0:=g;rw[d,g,cH,cH,cK aaK,cK aaK,mY VW];obtain⟨y,A,B,C,D,E,G⟩:=h.with ⟨hF,i⟩ s;rw[B,C,cH,cH];have hi:=t (n+3) (n'+3) VW VW y A D;rw[E,G] at hi;rcases hi with⟨e,he,h1,o,q⟩|⟨f,m,l,h1,o,q,hu,r⟩
   ·have:=NT;rw[h1,o,q,cJ,cJ,cO (by rw[da];exact he)];simp only[];rw[F4 VW VW];exact kV.no he rfl rfl rfl
   ·have H:=r.acU;have I:=f.iN r.ok;rw[h1,o,q,cJ,cJ,cK aaK];simp only[];rw[F4 VW VW];refine kV.yes rfl rfl rfl hu (.two (.inr rfl) i r.ty) ?_;rw[Fm.cN];simp only[c_];omega
  ·have d:ds p.eK 0 1=some 3:=d;have g:dq c 0 1=some 3:=g;rw[d,g,cH,cH,cO aaK,cO aaK,kG VW];exact kV.no aaK rfl rfl rfl
 ·rw[cO (by rw[da];exact b),cO (by rw[da];exact b),jo b];exact kV.no b rfl rfl rfl
def WY(n:Nat)(c:cS)(a b:Pf):dc (n+1) c (.mk 7 0 .z [] [] [a,b])=cT (dj n c a) λd e=>if(dw e 0) then some (fR,[],e)else if(dw d.cR.acS 3) then some (fR,[],10)else cT (dj n c b) λf g=>if(dw g 0) then some (fR,[],g)else cI (de d.cR.acT 1) λh=>cI (fj d.fk f.fk) λi=>cI (de d.cR.acT 0) λj=>cI (lx j f.cR) λk=>some (h,i,k):=by rw[dc];rfl
def Xo(L:List Fm)(a b:Pf)(g:List Ty)(hs:List Fm):pA L 7 0 .z [] [] (Pf.tO L [a,b]) g hs=pbind (G6 (a.inf L g hs) 3) λa m=>pbind (b.inf L g hs) λb n=>k_ (E2 (a.acT.getD 0 fR) b) (.inl (a.acT.getD 1 fR,m|||n)):=rfl
def VY(n:Nat)(L:List Fm)(a b:Pf)(p:cQ):qn (n+1) L (.mk 7 0 .z [] [] [a,b]) p=cT (dB n L a p 3) λc d=>if(dw d 0) then some (⟨fR,0⟩,d)else cT (dC n L b p) λe f=>if(dw f 0) then some (⟨fR,0⟩,f)else cI (de c.cR.acT 0) λh=>cI (iV h e.cR) λg=>if(dw g 0) then some (⟨fR,0⟩,g)else cI (de c.cR.acT 1) λi=>some (⟨i,x0 .u32 c.fk e.fk⟩,0):=by
 show jM (n+1) L (.mk 7 0 .z [] [] [a,b]) p=_;rw[jM];rfl
def Po{L:List Fm}{a b:Pf}{N:Nat}(A:iA L a N)(B:iA L b N):iA L (.mk 7 0 .z [] [] [a,b]) (N+5):=by
 refine iA.of λn n' hn C p c h=>?_;rw[WY,Xo,VY];rcases mm (A (n+2) (n'+3) VW VW p c h) 3 with⟨e,he,h1,g,d⟩|⟨f,m,l,h1,g,d,hu,k,o⟩
 ·rw[h1,g,cJ,cO (by rw[da];exact he)];rcases d with d|⟨f,l,m,d,o,rfl,_⟩
  ·rw[d,cJ,cO (by rw[da];exact he)];exact kV.no he rfl rfl rfl
  ·rw[d,cJ,cK aaK,cO (by rw[da];exact o)];exact kV.no he rfl rfl rfl
 ·obtain⟨x,y,rfl,u,hy⟩:=k.ty.QE o (.inr rfl);have r:=k.sub (x:=x) aa4 u;have s:=k.sub (x:=y) aa4 hy;have D:=x.iN u.ok;have E:=r.acU;rw[h1,g,d,cJ,cJ,cK aaK,cK aaK,cK aa4,fZ];rcases B (n+3) (n'+3) VW VW p c h with⟨e,he,h1,g,d⟩|⟨t,J,K,h1,g,d,i,j⟩
  ·rw[h1,g,d,cJ,cJ,cO (by rw[da];exact he),cO (by rw[da];exact he)];exact kV.no he rfl rfl rfl
  ·have v:=j.acU;have w:=t.iN j.ok;obtain⟨q,q1,F,G,_⟩:=hu.union i (by have:=hu.len;omega) (by have:=i.len;omega);obtain⟨H,I⟩:=JM (a:=x) (b:=t) VW VW;rw[h1,g,d,cJ,cJ,cK aaK,cK aaK,fZ];simp only[Fm.dd,dv,e9,iB,mc,cH,Xd,Uo];rw[q1,F,H,I,cH,cH,cH]
   by_cases hm:E2 x t=0
   ·rw[ic hm,hm,cK aaK];exact kV.yes rfl rfl rfl G hy (by have:=s.acU;omega)
   ·rw[jo hm,cO (by rw[da];exact hm)];exact kV.no hm rfl rfl rfl
def Us.has{l:List Int}{m:Nat}(h:Us l m):rn l=some (m.testBit 0)/\dw (qP .u32 (m:Int) 1) 0=m.testBit 0:=by
 have hm:=h.mem 0;constructor
 ·unfold rn;simp only[c6];cases l with
  |nil=>simp_all|cons a l=>
   rw[cO aa4];simp only[dv,iB,cH]
   congr 1
   rw[DQ,eW,<-hm];constructor
   ·rintro rfl;simp
   ·intro hh;rcases j0.1 hh with hh|hh
    ·exact hh.symm
    ·cases h.Yq with
     |cons s1 _=>
      have:=s1 0 (by simpa using hh);have:=h.pos a aa4;omega
 ·rw[show(1:Int)=((1:Nat):Int)from rfl,Lc h.lt VW];rw[DQ,da,Nat.testBit_zero,adS];simp only[oI];omega
def Wc(n:Nat)(c:cS)(s:Ty)(a:Pf):dc (n+2) c (.mk 8 0 s [] [] [a])=ik (cI (dq c 1 0) λk=>if(dw k 0) then some (fR,[],k)else cI (eh c [s]) λh=>cT (dj n h a) λb d=>if(dw d 0) then some (fR,[],d)else cI (iZ 4 s b.cR) λi=>cI (fm b.fk 1) λj=>some (i,j,0)) λe f g=>some (e,f,g):=by
 rw[dc];rw[mE];rfl
def UR(n:Nat)(c:cS)(s:Ty)(a:Pf):dc (n+2) c (.mk 12 0 s [] [] [a])=ik (cI (dq c 1 0) λl=>if(dw l 0) then some (fR,[],l)else cI (eh c [s]) λh=>cT (dj n h a) λb d=>if(dw d 0) then some (fR,[],d)else cI (rn b.fk) λi=>if i then some (fR,[],12)else cI (iZ 6 s b.cR) λj=>cI (fm b.fk 1) λk=>some (j,k,0)) λe f g=>some (e,f,g):=by
 rw[dc];rw[mE];rfl
def SK(L:List Fm)(s:Ty)(a:Pf)(g:List Ty)(hs:List Fm):pA L 8 0 s [] [] (Pf.tO L [a]) g hs=wq (16<g.length+1) 3 (pbind (a.inf L (g++[s]) (hs.map (Fm.up 0 1))) λb m=>.inl (.mk 4 s [] [b],m/2)):=rfl
def UZ(L:List Fm)(s:Ty)(a:Pf)(g:List Ty)(hs:List Fm):pA L 12 0 s [] [] (Pf.tO L [a]) g hs=wq (16<g.length+1) 3 (pbind (a.inf L (g++[s]) (hs.map (Fm.up 0 1))) λb m=>wq (m.testBit 0=true) 12 (.inl (.mk 6 s [] [b],m/2))):=rfl
def VV(n:Nat)(L:List Fm)(s:Ty)(a:Pf)(p:cQ):qn (n+1) L (.mk 8 0 s [] [] [a]) p=cI (ds p.eK 1 0) λf=>if(dw f 0) then some (⟨fR,0⟩,f)else cI (eC p [s]) λd=>cT (dC n L a d) λb c=>if(dw c 0) then some (⟨fR,0⟩,c)else cI (eg b.fk 1) λe=>some (⟨.mk 4 s [] [b.cR],e⟩,0):=by
 show fW (n+1) L (.mk 8 0 s [] [] [a]) p=_;rw[fW];rfl
def Tp(n:Nat)(L:List Fm)(s:Ty)(a:Pf)(p:cQ):qn (n+1) L (.mk 12 0 s [] [] [a]) p=cI (ds p.eK 1 0) λf=>if(dw f 0) then some (⟨fR,0⟩,f)else cI (eC p [s]) λd=>cT (dC n L a d) λb c=>if(dw c 0) then some (⟨fR,0⟩,c)else if(dw (qP .u32 b.fk 1) 0) then some (⟨fR,0⟩,12)else cI (eg b.fk 1) λe=>some (⟨.mk 6 s [] [b.cR],e⟩,0):=by
 show fW (n+1) L (.mk 12 0 s [] [] [a]) p=_;rw[fW];rfl
def Pw{L:List Fm}{s:Ty}(hs:s.err=0){a:Pf}{N:Nat}(r:iA L a N):iA L (.mk 8 0 s [] [] [a]) (N+5):=by
 refine iA.of λn n' hn t p c h=>?_;rw[show n'+4=n'+2+2 from rfl,Wc,SK,VV];rcases h.room (v:=1) (k:=0) VW VW with⟨b,d,o,_⟩|⟨b,d,o⟩
 ·have b:ds p.eK 1 0=some 0:=b;have d:dq c 1 0=some 0:=d;rw[b,d,cH,cH,cK nz,cK nz,mY VW];obtain⟨u,w,x,y,z,A,B⟩:=h.below hs o;rw[x,y,cH,cH];have hi:=r (n+3) (n'+2) VW VW u w z;rw[A,B] at hi;rcases hi with⟨e,he,h1,g,i⟩|⟨f,m,l,h1,g,i,hu,j⟩
  ·rw[h1,g,i,cJ,cJ,cO (by rw[da];exact he),cO (by rw[da];exact he)];exact kV.no he rfl rfl rfl
  ·have C:=j.acU;have D:=f.iN j.ok;have E:=ec hs;obtain⟨u1,u2,u3⟩:=hu.out (by have:=hu.len;omega) (k:=1) VW;rw[h1,g,i,cJ,cJ,cK nz,cK nz,fZ];simp only[];rw[Dz VW VW,cH,show(1:Int)=((1:Nat):Int)from rfl,u1,u2];refine kV.yes rfl rfl rfl u3 (.q (.inl rfl) hs j.ty) ?_;rw[Fm.cN];simp only[c_];omega
 ·have b:ds p.eK 1 0=some 3:=b;have d:dq c 1 0=some 3:=d;have F:=h.pl.nh;rw[b,d,cH,cH,cO aaK,cO aaK,kG VW];exact kV.no aaK rfl rfl rfl
def N'{L:List Fm}{s:Ty}(hs:s.err=0){a:Pf}{N:Nat}(t:iA L a N):iA L (.mk 12 0 s [] [] [a]) (N+5):=by
 refine iA.of λn n' hn u p c h=>?_;rw[show n'+4=n'+2+2 from rfl,UR,UZ,Tp];rcases h.room (v:=1) (k:=0) VW VW with⟨b,d,r,_⟩|⟨b,d,r⟩
 ·have b:ds p.eK 1 0=some 0:=b;have d:dq c 1 0=some 0:=d;rw[b,d,cH,cH,cK nz,cK nz,mY VW];obtain⟨w,x,y,z,A,B,C⟩:=h.below hs r;rw[y,z,cH,cH];have hi:=t (n+3) (n'+2) VW VW w x A;rw[B,C] at hi;rcases hi with⟨e,he,h1,i,j⟩|⟨f,m,l,h1,i,j,hu,o⟩
  ·rw[h1,i,j,cJ,cJ,cO (by rw[da];exact he),cO (by rw[da];exact he)];exact kV.no he rfl rfl rfl
  ·have D:=o.acU;have E:=f.iN o.ok;have F:=ec hs;obtain⟨u1,u2,u3⟩:=hu.out (by have:=hu.len;omega) (k:=1) VW;obtain⟨G,H⟩:=hu.has;rw[h1,i,j,cJ,cJ,cK nz,cK nz,fZ];simp only[];rw[G,H,cH]
   by_cases g:m.testBit 0=true
   ·rw[kG g,cO g,cO g];exact kV.no aaK rfl rfl rfl
   ·rw[mY g,cK g,cK g,Dz VW VW,cH,show(1:Int)=((1:Nat):Int)from rfl,u1,u2];refine kV.yes rfl rfl rfl u3 (.q (.inr (.inr (.inl rfl))) hs o.ty) ?_;rw[Fm.cN];simp only[c_];omega
 ·have b:ds p.eK 1 0=some 3:=b;have d:dq c 1 0=some 3:=d;have I:=h.pl.nh;rw[b,d,cH,cH,cO aaK,cO aaK,kG VW];exact kV.no aaK rfl rfl rfl
theorem Nc(a b:Ty):a.nw b=b.nw a:=by grind[Ty.mi]
def pC{a b:Ty}(c:a.err=0)(d:b.err=0):gj (sg a) b=some (a.nw b)/\eo FU b a=some (a.nw b):=by
 have h1:=ec c;have e:=ec d
 grind[gj,km,cH,rN,gU,Nc]
def aaZ(n:Nat)(c:cS)(t:Tm)(a:Pf):dc (n+2) c (.mk 9 0 .z [t] [] [a])=ik (cT (jC c.acW t) λp o=>if(dw o 0) then some (fR,[],o)else cT (dj n c a) λb d=>if(dw d 0) then some (fR,[],d)else cI (jA t) λh=>cI (fj b.fk h) λi=>if(dw b.cR.acS 4) then some (fR,[],10)else cI (eo FU b.cR.cP p) λj=>if j then cI (de b.cR.acT 0) λk=>cT (iQ k t) λl m=>some (l,i,m)else some (fR,[],7)) λe f g=>some (e,f,g):=by
 rw[dc];rw[ni];rfl
def Wo(n:Nat)(c:cS)(t:Tm)(a:Pf):dc (n+2) c (.mk 13 0 .z [t] [] [a])=ik (cT (jC c.acW t) λo m=>if(dw m 0) then some (fR,[],m)else cT (dj n c a) λb d=>if(dw d 0) then some (fR,[],d)else cI (jA t) λh=>cI (fj b.fk h) λp=>if(dw b.cR.acS 6) then some (fR,[],10)else cI (eo FU b.cR.cP o) λi=>if i then cI (de b.cR.acT 0) λj=>cT (iQ j t) λk l=>some (k,b.fk,l)else some (fR,[],7)) λe f g=>some (e,f,g):=by
 rw[dc];rw[ni];rfl
def Zj(L:List Fm)(t:Tm)(a:Pf)(g:List Ty)(hs:List Fm):pA L 9 0 .z [t] [] (Pf.tO L [a]) g hs=k_ (t.ty g).2 (pbind (G6 (a.inf L g hs) 4) λa m=>wq ((t.ty g).1.nw a.cP=false) 7 (k_ (oK (a.acT.getD 0 fR) t).2 (.inl ((oK (a.acT.getD 0 fR) t).1,m|||yh t)))):=rfl
def X7(L:List Fm)(t:Tm)(a:Pf)(g:List Ty)(hs:List Fm):pA L 13 0 .z [t] [] (Pf.tO L [a]) g hs=k_ (t.ty g).2 (pbind (G6 (a.inf L g hs) 6) λa m=>wq ((t.ty g).1.nw a.cP=false) 7 (k_ (oK (a.acT.getD 0 fR) t).2 (.inl ((oK (a.acT.getD 0 fR) t).1,m)))):=rfl
def aau(n:Nat)(L:List Fm)(t:Tm)(a:Pf)(p:cQ):qn (n+1) L (.mk 9 0 .z [t] [] [a]) p=cT (dz FU p.acW t) λj i=>if(dw i 0) then some (⟨fR,0⟩,i)else cI (jj t) λd=>cT (dB n L a p 4) λb c=>if(dw c 0) then some (⟨fR,0⟩,c)else cI (gj j b.cR.cP) λe=>if e then cI (de b.cR.acT 0) λf=>cT (gZ f t) λg h=>some (⟨g,x0 .u32 b.fk d⟩,h)else some (⟨fR,0⟩,7):=by
 show fY (n+1) L (.mk 9 0 .z [t] [] [a]) p=_;rw[fY];rfl
def XQ(n:Nat)(L:List Fm)(t:Tm)(a:Pf)(p:cQ):qn (n+1) L (.mk 13 0 .z [t] [] [a]) p=cT (dz FU p.acW t) λi h=>if(dw h 0) then some (⟨fR,0⟩,h)else cI (jj t) λj=>cT (dB n L a p 6) λb c=>if(dw c 0) then some (⟨fR,0⟩,c)else cI (gj i b.cR.cP) λd=>if d then cI (de b.cR.acT 0) λe=>cT (gZ e t) λf g=>some (⟨f,x0 .u32 b.fk 0⟩,g)else some (⟨fR,0⟩,7):=by
 show fY (n+1) L (.mk 13 0 .z [t] [] [a]) p=_;rw[fY];rfl
def Mg{m:Nat}(h:m<4294967296):x0 .u32 (m:Int) 0=(m:Int):=by
 rw[show(0:Int)=((0:Nat):Int)from rfl,Jo h VW,Nat.or_zero]
def yM{t:Tm}(a:t.err=0){g:List Ty}(b:jd g):(∃e,e≠0/\(t.ty g).2=e/\∃z,t.ty g=(z,e))\/∃s,t.ty g=(s,0)/\dG g t s/\s.err=0:=by
 obtain⟨s,e,c⟩:∃s e,t.ty g=(s,e):=⟨_,_,rfl⟩
 by_cases he:e=0
 ·subst he;obtain⟨h1,d⟩:=qk _ t (gu _) (Tm.fS a).1 g b s c
  grind
 ·grind
def QT{L:List Fm}{t:Tm}(d:t.err=0){a:Pf}{N:Nat}(C:iA L a N):iA L (.mk 9 0 .z [t] [] [a]) (N+5):=by
 refine iA.of λn n' hn D p c h=>?_;have g:=h.pl.nv;rw[show n'+4=n'+2+2 from rfl,aaZ,Zj,aau,h.pl.acW,(mz h.pl.ctx g d).1,(mz h.pl.ctx g d).2];rcases yM d h.pl.ctx with⟨e,he,q1,z,E⟩|⟨s,q1,j,hs⟩
 ·rw[E,kO he,cJ,cJ,cO (by rw[da];exact he),cO (by rw[da];exact he),jo he];exact kV.no he rfl rfl rfl
 ·obtain⟨G,f1,f2,f3⟩:=wJ g j d;rw[q1,py,cJ,cJ,cK nz,cK nz,ic rfl,f1,cH];rcases mm (C (n+2) (n'+2) VW VW p c h) 4 with⟨e,he,h1,o,i⟩|⟨f,m,l,h1,o,i,hu,y,r⟩
  ·rw[h1,o,cJ,cO (by rw[da];exact he)];rcases i with i|⟨f,l,m,i,r,rfl,hu⟩
   ·rw[i,cJ,cO (by rw[da];exact he)];exact kV.no he rfl rfl rfl
   ·obtain⟨q,u1,_⟩:=hu.union f3 (by have:=hu.len;omega) (by have:=f3.len;omega);rw[i,cJ,cK nz,f2,cH,u1,cH,cO (by rw[da];exact r)];exact kV.no he rfl rfl rfl
  ·obtain⟨A,x,rfl,k,B⟩:=y.ty.Eb r (.inl rfl);have u:=y.sub (x:=x) aa4 B;obtain⟨q,u1,u2,u3,_⟩:=hu.union f3 (by have:=hu.len;omega) (by have:=f3.len;omega);rw[h1,o,i,cJ,cJ,cK nz,cK nz,f2,cH,fZ];simp only[Fm.dn,Fm.dR,Fm.dd,dv,iB,cH,Xd];rw[u1,u2,cH,cK (show¬dw 4 4=true by decide),(pC hs k).1,(pC hs k).2,cH,cH]
   by_cases b:s.nw A=true
   ·have:=(Ty.mi s A).1 b;subst this;have v:sa c.acW x t:=⟨u.err,d,s,B,j⟩;rw[mY (by rw[b];decide),cO b,cO b,(v.both VW).1,(v.both VW).2];rcases qM x t with w|⟨F,w⟩
    ·rw[w,cJ,cJ,jo aaK];exact kV.no aaK rfl rfl rfl
    ·rw[w,cJ,cJ,ic rfl];exact kV.yes (f:=Fm.nj 0 x t) rfl rfl rfl u3 v.put VW
   ·rw[kG (by simpa using b),cK b,cK b];exact kV.no aaK rfl rfl rfl
def PJ{L:List Fm}{t:Tm}(d:t.err=0){a:Pf}{N:Nat}(C:iA L a N):iA L (.mk 13 0 .z [t] [] [a]) (N+5):=by
 refine iA.of λn n' hn D p c h=>?_;have g:=h.pl.nv;rw[show n'+4=n'+2+2 from rfl,Wo,X7,XQ,h.pl.acW,(mz h.pl.ctx g d).1,(mz h.pl.ctx g d).2];rcases yM d h.pl.ctx with⟨e,he,q1,z,E⟩|⟨s,q1,j,hs⟩
 ·rw[E,kO he,cJ,cJ,cO (by rw[da];exact he),cO (by rw[da];exact he),jo he];exact kV.no he rfl rfl rfl
 ·obtain⟨G,f1,f2,f3⟩:=wJ g j d;rw[q1,py,cJ,cJ,cK nz,cK nz,ic rfl,f1,cH];rcases mm (C (n+2) (n'+2) VW VW p c h) 6 with⟨e,he,h1,o,i⟩|⟨f,m,l,h1,o,i,hu,y,r⟩
  ·rw[h1,o,cJ,cO (by rw[da];exact he)];rcases i with i|⟨f,l,m,i,r,rfl,hu⟩
   ·rw[i,cJ,cO (by rw[da];exact he)];exact kV.no he rfl rfl rfl
   ·obtain⟨q,u1,_⟩:=hu.union f3 (by have:=hu.len;omega) (by have:=f3.len;omega);rw[i,cJ,cK nz,f2,cH,u1,cH,cO (by rw[da];exact r)];exact kV.no he rfl rfl rfl
  ·obtain⟨A,x,rfl,k,B⟩:=y.ty.Eb r (.inr (.inr (.inl rfl)));have u:=y.sub (x:=x) aa4 B;obtain⟨q,u1,_⟩:=hu.union f3 (by have:=hu.len;omega) (by have:=f3.len;omega);rw[h1,o,i,cJ,cJ,cK nz,cK nz,f2,cH,fZ];simp only[Fm.dn,Fm.dR,Fm.dd,dv,iB,cH,Xd];rw[u1,Mg hu.lt,cH,cK (show¬dw 6 6=true by decide),(pC hs k).1,(pC hs k).2,cH,cH]
   by_cases b:s.nw A=true
   ·have:=(Ty.mi s A).1 b;subst this;have v:sa c.acW x t:=⟨u.err,d,s,B,j⟩;rw[mY (by rw[b];decide),cO b,cO b,(v.both VW).1,(v.both VW).2];rcases qM x t with w|⟨F,w⟩
    ·rw[w,cJ,cJ,jo aaK];exact kV.no aaK rfl rfl rfl
    ·rw[w,cJ,cJ,ic rfl];exact kV.yes (f:=Fm.nj 0 x t) rfl rfl rfl hu v.put VW
   ·rw[kG (by simpa using b),cK b,cK b];exact kV.no aaK rfl rfl rfl
def XE(n:Nat)(c:cS)(t:Tm)(F:Fm)(a:Pf):dc (n+2) c (.mk 10 0 .z [t] [F] [a])=ik (cI (iH c.acW F) λb=>if(dw b 0) then some (fR,[],b)else if(dw F.acS 5) then some (fR,[],10)else cT (jC c.acW t) λh d=>if(dw d 0) then some (fR,[],d)else cI (eo FU F.cP h) λi=>if i then cI (de F.acT 0) λj=>cT (d_ n c a j t) λk l=>cI (jA t) λm=>cI (fj k m) λo=>some (F,o,l)else some (fR,[],7)) λe f g=>some (e,f,g):=by
 rw[dc];rw[ny];rfl
def Xr(n:Nat)(c:cS)(t:Tm)(F:Fm)(a:Pf):dc (n+2) c (.mk 14 0 .z [t] [F] [a])=ik (cI (iH c.acW F) λb=>if(dw b 0) then some (fR,[],b)else if(dw F.acS 7) then some (fR,[],10)else cT (jC c.acW t) λh d=>if(dw d 0) then some (fR,[],d)else cI (eo FU F.cP h) λi=>if i then cI (de F.acT 0) λj=>cT (d_ n c a j t) λk l=>some (F,k,l)else some (fR,[],7)) λe f g=>some (e,f,g):=by
 rw[dc];rw[ny];rfl
def Xm(L:List Fm)(t:Tm)(F:Fm)(a:Pf)(g:List Ty)(hs:List Fm):pA L 10 0 .z [t] [F] (Pf.tO L [a]) g hs=k_ (F.vn g) (wq (F.acS≠5) 10 (k_ (t.ty g).2 (wq ((t.ty g).1.nw F.cP=false) 7 (pbind (JZ (a.inf L g hs) (F.acT.getD 0 fR) t) λ_ m=>.inl (F,m|||yh t))))):=rfl
def Xf(L:List Fm)(t:Tm)(F:Fm)(a:Pf)(g:List Ty)(hs:List Fm):pA L 14 0 .z [t] [F] (Pf.tO L [a]) g hs=k_ (F.vn g) (wq (F.acS≠7) 10 (k_ (t.ty g).2 (wq ((t.ty g).1.nw F.cP=false) 7 (pbind (JZ (a.inf L g hs) (F.acT.getD 0 fR) t) λ_ m=>.inl (F,m))))):=rfl
def Xz(n:Nat)(L:List Fm)(t:Tm)(F:Fm)(a:Pf)(p:cQ):qn (n+1) L (.mk 10 0 .z [t] [F] [a]) p=cI (dy FU p.acW F) λc=>if(dw c 0) then some (⟨fR,0⟩,c)else if(dw F.acS 5) then some (⟨fR,0⟩,10)else cT (dz FU p.acW t) λh d=>if(dw d 0) then some (⟨fR,0⟩,d)else cI (gj h F.cP) λi=>if i then cI (de F.acT 0) λe=>cT (dD n L a p e t) λf b=>if(dw b 0) then some (⟨fR,0⟩,b)else cI (jj t) λg=>some (⟨F,x0 .u32 f.fk g⟩,0)else some (⟨fR,0⟩,7):=by
 show gm (n+1) L (.mk 10 0 .z [t] [F] [a]) p=_;rw[gm];rfl
def Wm(n:Nat)(L:List Fm)(t:Tm)(F:Fm)(a:Pf)(p:cQ):qn (n+1) L (.mk 14 0 .z [t] [F] [a]) p=cI (dy FU p.acW F) λc=>if(dw c 0) then some (⟨fR,0⟩,c)else if(dw F.acS 7) then some (⟨fR,0⟩,10)else cT (dz FU p.acW t) λg d=>if(dw d 0) then some (⟨fR,0⟩,d)else cI (gj g F.cP) λh=>if h then cI (de F.acT 0) λe=>cT (dD n L a p e t) λf b=>if(dw b 0) then some (⟨fR,0⟩,b)else some (⟨F,x0 .u32 f.fk 0⟩,0)else some (⟨fR,0⟩,7):=by
 show gm (n+1) L (.mk 14 0 .z [t] [F] [a]) p=_;rw[gm];rfl
def Qj{L:List Fm}{t:Tm}(d:t.err=0){F:Fm}(hF:F.err=0){a:Pf}{N:Nat}(D:iA L a N):iA L (.mk 10 0 .z [t] [F] [a]) (N+5):=by
 refine iA.of λn n' hn E p c h=>?_;have g:=h.pl.nv;obtain⟨t1,_,t2⟩:=sn h.pl.ctx VW hF;have G:=(Fm.fS hF).2;rw[show n'+4=n'+2+2 from rfl,XE,Xm,Xz,h.pl.acW,(mz h.pl.ctx g d).1,(mz h.pl.ctx g d).2,t1,t2 g,cH,cH]
 by_cases j:F.vn c.acW=0
 ·have o:¬dw (F.vn c.acW) 0=true:=by rw[da];simpa using j
  rw[cK o,cK o,ic j];have i:=sq F (Fm.fS hF).1 c.acW h.pl.ctx j
  by_cases k:F.acS=5
  ·have o:¬dw F.acS 5=true:=by rw[da];simpa using k
   rw[cK o,cK o,mY (by simpa using k)];rcases yM d h.pl.ctx with⟨e,he,q1,z,H⟩|⟨s,q1,r,hs⟩
   ·rw[H,kO he,cJ,cJ,cO (by rw[da];exact he),cO (by rw[da];exact he),jo he];exact kV.no he rfl rfl rfl
   ·obtain⟨v,x,rfl,u,C⟩:=i.Eb k (.inr (.inl rfl));have w:Hg c.acW (.mk 5 v [] [x]):=⟨hF,i⟩;have y:=w.sub (x:=x) aa4 C;obtain⟨J,f1,f2,f3⟩:=wJ g r d;rw[q1,py,cJ,cJ,cK nz,cK nz,ic rfl];simp only[Fm.dn,Fm.dR,Fm.dd,dv,iB,cH,Xd];rw[(pC hs u).1,(pC hs u).2,cH,cH]
    by_cases b:s.nw v=true
    ·have:=(Ty.mi s v).1 b;subst this;have I:sa c.acW x t:=⟨y.err,d,s,C,r⟩;rw[mY (by rw[b];decide),cO b,cO b];rcases sb g (D (n+2) (n'+1) VW VW p c h) I with⟨e,z,l,m,he,h1,A,B,hu⟩|⟨f,m,l,h1,A,B,hu⟩
     ·obtain⟨q,u1,_⟩:=hu.union f3 (by have:=hu.len;omega) (by have:=f3.len;omega);rw[h1,A,B,cJ,cJ,cO (by rw[da];exact he),f2,cH,u1];exact kV.no he rfl rfl rfl
     ·obtain⟨q,u1,u2,u3,_⟩:=hu.union f3 (by have:=hu.len;omega) (by have:=f3.len;omega);rw[h1,A,B,cJ,cJ,cK nz,f1,f2,cH,cH,fZ];simp only[];rw[u1,u2];exact kV.yes rfl rfl rfl u3 i VW
    ·rw[kG (by simpa using b),cK b,cK b];exact kV.no aaK rfl rfl rfl
  ·rw[cO (by rw[da];exact k),cO (by rw[da];exact k),kG k];exact kV.no aaK rfl rfl rfl
 ·rw[cO (by rw[da];exact j),cO (by rw[da];exact j),jo j];exact kV.no j rfl rfl rfl
def Pa{L:List Fm}{t:Tm}(g:t.err=0){F:Fm}(hF:F.err=0){a:Pf}{N:Nat}(C:iA L a N):iA L (.mk 14 0 .z [t] [F] [a]) (N+5):=by
 refine iA.of λn n' hn D p c h=>?_;have i:=h.pl.nv;obtain⟨t1,_,t2⟩:=sn h.pl.ctx VW hF;have E:=(Fm.fS hF).2;rw[show n'+4=n'+2+2 from rfl,Xr,Xf,Wm,h.pl.acW,(mz h.pl.ctx i g).1,(mz h.pl.ctx i g).2,t1,t2 i,cH,cH]
 by_cases j:F.vn c.acW=0
 ·have o:¬dw (F.vn c.acW) 0=true:=by rw[da];simpa using j
  rw[cK o,cK o,ic j];have d:=sq F (Fm.fS hF).1 c.acW h.pl.ctx j
  by_cases k:F.acS=7
  ·have o:¬dw F.acS 7=true:=by rw[da];simpa using k
   rw[cK o,cK o,mY (by simpa using k)];rcases yM g h.pl.ctx with⟨e,he,q1,z,G⟩|⟨s,q1,r,hs⟩
   ·rw[G,kO he,cJ,cJ,cO (by rw[da];exact he),cO (by rw[da];exact he),jo he];exact kV.no he rfl rfl rfl
   ·obtain⟨u,x,rfl,q,B⟩:=d.Eb k (.inr (.inr (.inr rfl)));have v:Hg c.acW (.mk 7 u [] [x]):=⟨hF,d⟩;have w:=v.sub (x:=x) aa4 B;rw[q1,py,cJ,cJ,cK nz,cK nz,ic rfl];simp only[Fm.dn,Fm.dR,Fm.dd,dv,iB,cH,Xd];rw[(pC hs q).1,(pC hs q).2,cH,cH]
    by_cases b:s.nw u=true
    ·have:=(Ty.mi s u).1 b;subst this;have H:sa c.acW x t:=⟨w.err,g,s,B,r⟩;rw[mY (by rw[b];decide),cO b,cO b];rcases sb i (C (n+2) (n'+1) VW VW p c h) H with⟨e,z,l,m,he,h1,y,A,hu⟩|⟨f,m,l,h1,y,A,hu⟩
     ·rw[h1,y,A,cJ,cJ,cO (by rw[da];exact he)];exact kV.no he rfl rfl rfl
     ·rw[h1,y,A,cJ,cJ,cK nz,fZ];simp only[];rw[Mg hu.lt];exact kV.yes rfl rfl rfl hu d VW
    ·rw[kG (by simpa using b),cK b,cK b];exact kV.no aaK rfl rfl rfl
  ·rw[cO (by rw[da];exact k),cO (by rw[da];exact k),kG k];exact kV.no aaK rfl rfl rfl
 ·rw[cO (by rw[da];exact j),cO (by rw[da];exact j),jo j];exact kV.no j rfl rfl rfl
def OM(k:Fm->Option (Fm×List Int×Int))(f:Fm):Option (Fm×List Int×Int):=
 cI (pR FU f 0) λc=>if c then cT (mC FU f) λa b=>if(dw b 0) then some (fR,[],b)else cI (pR FU a 0) λd=>if d then some (fR,[],6)else k (.mk a.acS (.mk a.cP.acS a.cP.acT) a.c9 a.acT)else k (.mk f.acS (.mk f.cP.acS f.cP.acT) f.c9 f.acT)
def Q_(n:Nat)(c:cS)(a b:Pf):dc (n+2) c (.mk 11 0 .z [] [] [a,b])=ik (cT (dj n c a) λd e=>if(dw e 0) then some (fR,[],e)else if(dw d.cR.acS 5) then some (fR,[],10)else cI (dq c 1 1) λg=>if(dw g 0) then some (fR,[],g)else cI (eh c [d.cR.cP]) λq=>cI (de d.cR.acT 0) λr=>cI (eZ q r) λs=>cT (dj n s b) λh i=>if(dw i 0) then some (fR,[],i)else OM (λf=>cI (fH FU f 1 (-1)) λj=>cI (fm h.fk 1) λk=>cI (fj d.fk k) λl=>some (j,l,0)) h.cR) λm o p=>some (m,o,p):=by
 rw[dc];rw[lR];rfl
def Sw(n:Nat)(c:cS)(a b:Pf):dc (n+2) c (.mk 15 0 .z [] [] [a,b])=ik (cT (dj n c a) λd g=>if(dw g 0) then some (fR,[],g)else if(dw d.cR.acS 7) then some (fR,[],10)else cI (dq c 1 1) λh=>if(dw h 0) then some (fR,[],h)else cI (eh c [d.cR.cP]) λr=>cI (de d.cR.acT 0) λs=>cI (eZ r s) λt=>cT (dj n t b) λe i=>if(dw i 0) then some (fR,[],i)else OM (λf=>cI (rn e.fk) λj=>if j then some (fR,[],12)else cI (fH FU f 1 (-1)) λk=>cI (fm e.fk 1) λl=>cI (fj d.fk l) λm=>some (k,m,0)) e.cR) λo p q=>some (o,p,q):=by
 rw[dc];rw[lR];rfl
def Rb(L:List Fm)(a b:Pf)(g:List Ty)(hs:List Fm):pA L 11 0 .z [] [] (Pf.tO L [a,b]) g hs=pbind (G6 (a.inf L g hs) 5) λa m=>wq (16<g.length+1\/16<hs.length+1) 3 (pbind (b.inf L (g++[a.cP]) (hs.map (Fm.up 0 1)++[a.acT.getD 0 fR])) λb n=>k_ (F_ b).2 (.inl ((F_ b).1,m|||n/2))):=rfl
def Ss(L:List Fm)(a b:Pf)(g:List Ty)(hs:List Fm):pA L 15 0 .z [] [] (Pf.tO L [a,b]) g hs=pbind (G6 (a.inf L g hs) 7) λa m=>wq (16<g.length+1\/16<hs.length+1) 3 (pbind (b.inf L (g++[a.cP]) (hs.map (Fm.up 0 1)++[a.acT.getD 0 fR])) λb n=>k_ (F_ b).2 (wq (n.testBit 0=true) 12 (.inl ((F_ b).1,m|||n/2)))):=rfl
def Sv(n:Nat)(L:List Fm)(a b:Pf)(p:cQ):qn (n+1) L (.mk 11 0 .z [] [] [a,b]) p=cT (dB n L a p 5) λc d=>if(dw d 0) then some (⟨fR,0⟩,d)else cI (ds p.eK 1 1) λe=>if(dw e 0) then some (⟨fR,0⟩,e)else cI (eC p [c.cR.cP]) λi=>cI (de c.cR.acT 0) λj=>cI (eI i j) λk=>cT (dC n L b k) λf g=>if(dw g 0) then some (⟨fR,0⟩,g)else cT (lV f.cR) λl h=>if(dw h 0) then some (⟨fR,0⟩,h)else cI (eg f.fk 1) λm=>some (⟨l,x0 .u32 c.fk m⟩,0):=by
 show gn (n+1) L (.mk 11 0 .z [] [] [a,b]) p=_;rw[gn];rfl
def Rp(n:Nat)(L:List Fm)(a b:Pf)(p:cQ):qn (n+1) L (.mk 15 0 .z [] [] [a,b]) p=cT (dB n L a p 7) λc e=>if(dw e 0) then some (⟨fR,0⟩,e)else cI (ds p.eK 1 1) λf=>if(dw f 0) then some (⟨fR,0⟩,f)else cI (eC p [c.cR.cP]) λi=>cI (de c.cR.acT 0) λj=>cI (eI i j) λk=>cT (dC n L b k) λd g=>if(dw g 0) then some (⟨fR,0⟩,g)else cT (lV d.cR) λl h=>if(dw h 0) then some (⟨fR,0⟩,h)else if(dw (qP .u32 d.fk 1) 0) then some (⟨fR,0⟩,12)else cI (eg d.fk 1) λm=>some (⟨l,x0 .u32 c.fk m⟩,0):=by
 show gn (n+1) L (.mk 15 0 .z [] [] [a,b]) p=_;rw[gn];rfl
def Ld{g:List Ty}{s:Ty}{f:Fm}(h:Hg (g++[s]) f)(hg:g.length<=1000)(k:Fm->Option (Fm×List Int×Int))(k':Fm->Option (Fm×List Int×Int))(j:∀x,x.ac0 0=0->x.acU<=4096*4096->x.acY 1000000000000=true->k x=k' (x.up 1 (-1))):OM k f=if(F_ f).2=0 then k' (F_ f).1 else some (fR,[],(F_ f).2):=by
 have hn:=h.acU;have m:f.acY 1000000000000=true:=h.ty.acY _ aa_;unfold OM;rw[CL FU f 0 (by rw[dO];omega) VW VW VW,cH,Ty.ku,Fm.ku]
 by_cases i:f.ac0 0=0
 ·have hw:F_ f=(f.up 1 (-1),0):=by unfold F_;rw[cO i]
  grind
 ·rw[cO (show decide (0<f.ac0 0)=true by simp;omega),EG FU f (by rw[dO];omega) VW (T0.of f hn h.ok (h.ty.acY _ aa_))];obtain⟨a,b,d⟩:∃a b,f.wL 0=(a,b):=⟨_,_,rfl⟩
  have hw:F_ f=if b≠0 then(fR,b)else if a.ac0 0≠0 then(fR,6)else(a.up 1 (-1),0):=by unfold F_;rw[cK i,d]
  rw[d];simp only[]
  by_cases he:b=0
  ·subst he;have c:=Nt h.ty 0 aa_ hn (by rw[d]);rw[d] at c;obtain⟨_,a2,a3⟩:=c;have a2:j1 (g++[s]) a:=a2;have a3:a.acU<=3000*f.acU:=a3;rw[cK aaK] at hw;rw[cO rfl,cJ,cK nz,CL FU a 0 (by rw[dO];omega) VW VW VW,cH,Ty.ku,Fm.ku]
   by_cases e:a.ac0 0=0
   ·rw[cK (by simpa using e)] at hw;rw[hw,cK (show¬(decide (0<a.ac0 0)=true) by simp;omega)];exact(j a e VW (a2.acY _ aa_)).trans (cO rfl).symm
   ·rw[cO e] at hw;rw[hw,cO (show decide (0<a.ac0 0)=true by simp;omega)];rfl
  ·rw[cO he] at hw
   have l:dw b 0=true:=by rw[da];exact he
   rw[hw,cK he,cJ,cO l,cK he]
def Lh{L:List Fm}{a b:Pf}{N:Nat}(H:iA L a N)(I:iA L b N):iA L (.mk 11 0 .z [] [] [a,b]) (N+5):=by
 refine iA.of λn n' hn J p c h=>?_;have K:=h.pl.nv;rw[show n'+4=n'+2+2 from rfl,Q_,Rb,Sv];rcases mm (H (n+2) (n'+2) VW VW p c h) 5 with⟨e,he,h1,g,d⟩|⟨f,m,l,h1,g,d,hu,B,u⟩
 ·rw[h1,g,cJ,cO (by rw[da];exact he)];rcases d with d|⟨f,l,m,d,u,rfl,_⟩
  ·rw[d,cJ,cO (by rw[da];exact he)];exact kV.no he rfl rfl rfl
  ·rw[d,cJ,cK nz,cO (by rw[da];exact u)];exact kV.no he rfl rfl rfl
 ·obtain⟨s,x,rfl,hs,M⟩:=B.ty.Eb u (.inr (.inl rfl));have A:=B.sub (x:=x) aa4 M;rw[h1,g,d,cJ,cJ,cK nz,cK nz,cK aa4,fZ];simp only[Fm.dR,Fm.dd,dv,iB,cH,Xd];rcases h.room (v:=1) (k:=1) VW VW with⟨i,j,C,O⟩|⟨i,j,C⟩
  ·have i:ds p.eK 1 1=some 0:=i;have j:dq c 1 1=some 0:=j;rw[i,j,cH,cH,cK nz,cK nz,mY VW];obtain⟨p1,c1,P,Q,R,D,E⟩:=h.below hs C;obtain⟨S,T,U,V,W,X,Y⟩:=R.with (f:=x) (by rw[D];exact A) (by rw[E];simpa using O);rw[P,Q,cH,cH,U,V,cH,cH];have hi:=I (n+3) (n'+2) VW VW S T W;rw[X,Y,D,E] at hi;rcases hi with⟨e,he,h1,g,d⟩|⟨Z,F,G,h1,g,d,t,o⟩
   ·rw[h1,g,d,cJ,cJ,cO (by rw[da];exact he),cO (by rw[da];exact he)];exact kV.no he rfl rfl rfl
   ·obtain⟨u1,u2,u3⟩:=t.out (by have:=t.len;omega) (k:=1) VW;have u1:fm G 1=some (w7 ((1:Nat):Int) G):=u1;have u2:eg (F:Int) 1=some ((F/2^1:Nat):Int):=u2;obtain⟨q,v1,v2,v3,_⟩:=hu.union u3 (by have:=hu.len;omega) (by have:=u3.len;omega);rw[h1,g,d,cJ,cJ,cK nz,cK nz,fZ];simp only[];rw[vz o VW]
    rw[Ld o VW _ (λy=>some (y,q,0)) (λy y1 y2 y3=>by
     rw[Cy FU y 1 (by rw[dO];omega) VW VW VW y3,cH,u1,cH,v1,cH])]
    obtain⟨w,e,hw⟩:∃w e,F_ Z=(w,e):=⟨_,_,rfl⟩;rw[hw,cJ]
    by_cases he:e=0
    ·subst he;have r:=SD o VW hs (by rw[hw]);rw[hw] at r;rw[cK nz,cO rfl,ic rfl,u2,cH,v2];exact kV.yes rfl rfl rfl v3 r.1 (by have:=r.2;omega)
    ·rw[cO (by rw[da];exact he),cK he,jo he];exact kV.no he rfl rfl rfl
  ·have i:ds p.eK 1 1=some 3:=i;have j:dq c 1 1=some 3:=j;rw[i,j,cH,cH,cO aaK,cO aaK,kG VW];exact kV.no aaK rfl rfl rfl
def LD{L:List Fm}{a b:Pf}{N:Nat}(K:iA L a N)(g:iA L b N):iA L (.mk 15 0 .z [] [] [a,b]) (N+5):=by
 refine iA.of λn n' hn M p c h=>?_;have O:=h.pl.nv;rw[show n'+4=n'+2+2 from rfl,Sw,Ss,Rp];rcases mm (K (n+2) (n'+2) VW VW p c h) 7 with⟨e,he,h1,i,d⟩|⟨f,m,l,h1,i,d,hu,E,B⟩
 ·rw[h1,i,cJ,cO (by rw[da];exact he)];rcases d with d|⟨f,l,m,d,B,rfl,_⟩
  ·rw[d,cJ,cO (by rw[da];exact he)];exact kV.no he rfl rfl rfl
  ·rw[d,cJ,cK nz,cO (by rw[da];exact B)];exact kV.no he rfl rfl rfl
 ·obtain⟨s,x,rfl,hs,P⟩:=E.ty.Eb B (.inr (.inr (.inr rfl)));have C:=E.sub (x:=x) aa4 P;rw[h1,i,d,cJ,cJ,cK nz,cK nz,cK aa4,fZ];simp only[Fm.dR,Fm.dd,dv,iB,cH,Xd];rcases h.room (v:=1) (k:=1) VW VW with⟨j,o,F,Q⟩|⟨j,o,F⟩
  ·have j:ds p.eK 1 1=some 0:=j;have o:dq c 1 1=some 0:=o;rw[j,o,cH,cH,cK nz,cK nz,mY VW];obtain⟨p1,G,R,S,T,H,I⟩:=h.below hs F;obtain⟨U,D,V,W,X,Y,Z⟩:=T.with (f:=x) (by rw[H];exact C) (by rw[I];simpa using Q);rw[R,S,cH,cH,V,W,cH,cH];have hi:=g (n+3) (n'+2) VW VW U D X;rw[Y,Z,H,I] at hi;rcases hi with⟨e,he,h1,i,d⟩|⟨f',A,J,h1,i,d,r,t⟩
   ·rw[h1,i,d,cJ,cJ,cO (by rw[da];exact he),cO (by rw[da];exact he)];exact kV.no he rfl rfl rfl
   ·obtain⟨u1,u2,u3⟩:=r.out (by have:=r.len;omega) (k:=1) VW;have u1:fm J 1=some (w7 ((1:Nat):Int) J):=u1;have u2:eg (A:Int) 1=some ((A/2^1:Nat):Int):=u2;obtain⟨q,v1,v2,v3,_⟩:=hu.union u3 (by have:=hu.len;omega) (by have:=u3.len;omega);rw[h1,i,d,cJ,cJ,cK nz,cK nz,fZ];simp only[];rw[vz t VW];obtain⟨G,D⟩:=r.has
    rw[Ld t VW _ (λy=>if A.testBit 0 then some (fR,[],12)else some (y,q,0)) (λy y1 y2 y3=>by
     rw[G,cH,Cy FU y 1 (by rw[dO];omega) VW VW VW y3,cH,u1,cH,v1,cH])]
    obtain⟨w,e,hw⟩:∃w e,F_ f'=(w,e):=⟨_,_,rfl⟩;rw[hw,cJ]
    by_cases he:e=0
    ·subst he;have u:=SD t VW hs (by rw[hw]);rw[hw] at u;rw[cK nz,cO rfl,ic rfl,D]
     by_cases g:A.testBit 0=true
     ·rw[kG g,cO g,cO g];exact kV.no aaK rfl rfl rfl
     ·rw[mY g,cK g,cK g,u2,cH,v2];exact kV.yes rfl rfl rfl v3 u.1 (by have:=u.2;omega)
    ·rw[cO (by rw[da];exact he),cK he,jo he];exact kV.no he rfl rfl rfl
  ·have j:ds p.eK 1 1=some 3:=j;have o:dq c 1 1=some 3:=o;rw[j,o,cH,cH,cO aaK,cO aaK,kG VW];exact kV.no aaK rfl rfl rfl
def jd.nat{g:List Ty}(h:jd g):jd (g++[.nat]):=h.app Ty.fL
def jd.o6{g:List Ty}(h:jd g):jd (g++[.o6]):=h.app Ty.oS
def KF{g:List Ty}(d:jd g){t:Tm}(f:t.err=0){s:Ty}(hs:s=.nat\/s=.o6)(h:oN t g s.acS=0):dG g t s:=by
 rcases yM f d with⟨e,he,q1,z,j⟩|⟨b,q1,i,a⟩
 ·unfold oN at h
  grind
 ·unfold oN at h;rw[q1] at h
  by_cases c:b.acS=s.acS
  ·have:b=s:=by
    rcases hs with rfl|rfl
    ·exact(uN a).1 c
    ·exact(Cl a).1 c
   rwa [<-this]
  ·grind
def tU{F:Fm}(hF:F.err=0)(a:F.acY 1000000000=true){f c:Nat}(b:f<=100)(d:c<=100):en F (f:Int) (c:Int)=some (F.up f c)/\fH FU F (f:Int) (c:Int)=some (F.up f c):=by
 obtain⟨a1,a2⟩:=Fm.fS hF;exact⟨tG a1 VW (Fm.lT _ VW a) VW VW VW VW,sX FU F f c (by rw[dO];omega) VW VW VW VW VW (Fm.lT _ VW a)⟩
def Jh{F:Fm}(hF:F.err=0){f c:Int}(a:0<=f)(b:0<=c):(F.up f c).err=0:=by grind[Fm.fS,Fm.err,Fm.IB,Fm.qt]
def xR{F:Fm}{f:Int}:F.up f 0=F:=Fm.LK F f
def aaG:xP.err=0:=aaK
def Ua:(Tm.mk 7 0 .z []).err=0:=aaK
def W2:(jL v0).err=0:=aaK
def Xe:(Tm.mk 8 0 .z [v1,v0]).err=0:=aaK
def Qf{L:List Fm}{p:cQ}{c:cS}(h:PG L p c)(hn:c.acW.length+2<=16):∃b a,eC p [.nat,.o6]=some b/\eh c [.nat,.o6]=some a/\PG L b a/\a.acW=c.acW++[.nat]++[.o6]/\a.acZ=c.acZ.map (Fm.up 0 2):=by
 obtain⟨b,a,d,e,f,g,i⟩:=h.RK (l:=[.nat,.o6]) (λx hx=>by
  rcases j0.1 hx with rfl|hx
  ·exact Ty.fL
  ·rw[yo.1 hx];exact Ty.oS) hn
 grind
def T8(n:Nat)(c:cS)(t:Tm)(F:Fm)(a b:Pf):dc (n+2) c (.mk 16 0 .z [t] [F] [a,b])=ik (fD (eJ c.acW [.nat])<|cI (jV (fa c.acW [.nat]) F) λe=>if(dw e 0) then some (fR,[],e)else cI (fX c t 1) λf=>if(dw f 0) then some (fR,[],f)else cI (eF 4 []) λy=>cT (d_ n c a F y) λA g=>if(dw g 0) then some (fR,[],g)else cI (dq c 1 1) λh=>if(dw h 0) then some (fR,[],h)else cI (eh c [.nat]) λi=>cI (eZ i F) λj=>cI (fH FU F 1 1) λk=>cI (eF 5 [v0]) λl=>cT (d_ n j b k l) λm d=>if(dw d 0) then some (fR,[],d)else cT (iQ F t) λo p=>cI (jA t) λq=>cI (fj q A) λr=>cI (fm m 1) λs=>cI (fj r s) λu=>some (o,u,p)) λv w x=>some (v,w,x):=by
 rw[dc];rw[oY];rfl
def Tr(n:Nat)(c:cS)(t:Tm)(F:Fm)(a b:Pf):dc (n+2) c (.mk 17 0 .z [t] [F] [a,b])=ik (fD (eJ c.acW [.o6])<|cI (jV (fa c.acW [.o6]) F) λe=>if(dw e 0) then some (fR,[],e)else cI (fX c t 2) λf=>if(dw f 0) then some (fR,[],f)else cI (eF 7 []) λA=>cT (d_ n c a F A) λB g=>if(dw g 0) then some (fR,[],g)else cI (dq c 2 1) λh=>if(dw h 0) then some (fR,[],h)else cI (eh c [.nat,.o6]) λi=>cI (fH FU F 1 1) λj=>cI (eZ i j) λk=>cI (fH FU F 1 2) λl=>cI (eF 8 [v1,v0]) λm=>cT (d_ n k b l m) λo d=>if(dw d 0) then some (fR,[],d)else cT (iQ F t) λp q=>cI (jA t) λr=>cI (fj r B) λs=>cI (fm o 2) λu=>cI (fj s u) λv=>some (p,v,q)) λw x y=>some (w,x,y):=by
 rw[dc];rw[m5];rfl
def UM(L:List Fm)(t:Tm)(F:Fm)(a b:Pf)(g:List Ty)(hs:List Fm):pA L 16 0 .z [t] [F] (Pf.tO L [a,b]) g hs=k_ (F.vn (g++[.nat])) (k_ (oN t g 1) (pbind (JZ (a.inf L g hs) F xP) λ_ m=>wq (16<g.length+1\/16<hs.length+1) 3 (pbind (JZ (b.inf L (g++[.nat]) (hs.map (Fm.up 0 1)++[F])) (F.up 1 1) (jL v0)) λ_ n=>k_ (oK F t).2 (.inl ((oK F t).1,(yh t|||m)|||n/2))))):=rfl
def Ud(L:List Fm)(t:Tm)(F:Fm)(a b:Pf)(g:List Ty)(hs:List Fm):pA L 17 0 .z [t] [F] (Pf.tO L [a,b]) g hs=k_ (F.vn (g++[.o6])) (k_ (oN t g 2) (pbind (JZ (a.inf L g hs) F (.mk 7 0 .z [])) λ_ m=>wq (16<g.length+2\/16<hs.length+1) 3 (pbind (JZ (b.inf L (g++[.nat]++[.o6]) (hs.map (Fm.up 0 2)++[F.up 1 1])) (F.up 1 2) (.mk 8 0 .z [v1,v0])) λ_ n=>k_ (oK F t).2 (.inl ((oK F t).1,(yh t|||m)|||n/4))))):=rfl
def Ux(n:Nat)(L:List Fm)(t:Tm)(F:Fm)(a b:Pf)(p:cQ):qn (n+1) L (.mk 16 0 .z [t] [F] [a,b]) p=cI (e_ p.acW [.nat]) λs=>cI (dy FU s F) λd=>if(dw d 0) then some (⟨fR,0⟩,d)else cI (gG p.acW t 1) λe=>if(dw e 0) then some (⟨fR,0⟩,e)else cT (dD n L a p F xP) λu f=>if(dw f 0) then some (⟨fR,0⟩,f)else cI (ds p.eK 1 1) λg=>if(dw g 0) then some (⟨fR,0⟩,g)else cI (eC p [.nat]) λh=>cI (en F 1 (dZ .i64 1 1)) λi=>cI (eI h i) λj=>cI (en F 1 1) λk=>cT (dD n L b j k (jL v0)) λl c=>if(dw c 0) then some (⟨fR,0⟩,c)else cT (gZ F t) λm o=>cI (jj t) λq=>cI (eg l.fk 1) λr=>some (⟨m,x0 .u32 (x0 .u32 q u.fk) r⟩,o):=by
 rfl
def Ur(n:Nat)(L:List Fm)(t:Tm)(F:Fm)(a b:Pf)(p:cQ):qn (n+1) L (.mk 17 0 .z [t] [F] [a,b]) p=cI (e_ p.acW [.o6]) λs=>cI (dy FU s F) λd=>if(dw d 0) then some (⟨fR,0⟩,d)else cI (gG p.acW t 2) λe=>if(dw e 0) then some (⟨fR,0⟩,e)else cT (dD n L a p F (.mk 7 0 .z [])) λu f=>if(dw f 0) then some (⟨fR,0⟩,f)else cI (ds p.eK 2 1) λg=>if(dw g 0) then some (⟨fR,0⟩,g)else cI (eC p [.nat,.o6]) λh=>cI (en F 1 (dZ .i64 2 1)) λi=>cI (eI h i) λj=>cI (en F 1 2) λk=>cT (dD n L b j k (.mk 8 0 .z [v1,v0])) λl c=>if(dw c 0) then some (⟨fR,0⟩,c)else cT (gZ F t) λm o=>cI (jj t) λq=>cI (eg l.fk 2) λr=>some (⟨m,x0 .u32 (x0 .u32 q u.fk) r⟩,o):=by
 rfl
def MR{L:List Fm}{t:Tm}(g:t.err=0){F:Fm}(hF:F.err=0){a b:Pf}{N:Nat}(W:iA L a N)(X:iA L b N):iA L (.mk 16 0 .z [t] [F] [a,b]) (N+5):=by
 refine iA.of λn n' hn Y p c h=>?_;have i:=h.pl.nv;have G:=h.pl.ctx;have Z:=(Fm.fS hF).2;obtain⟨t1,t2,_⟩:=sn G.nat aa_ hF;obtain⟨s1,s2⟩:=has_both G i rfl g 1;rw[show n'+4=n'+2+2 from rfl,T8,UM,Ux,h.pl.acW,rS Ty.fL VW,cH,t1,cH,dS aa_,cX,fx,t2,cH,s1,s2,cH,cH]
 by_cases j:F.vn (c.acW++[.nat])=0
 ·have o:=j;rw[<-zq (a:=_=_),<-ne_eq,<-da] at o;rw[cK o,cK o,ic j];have d:=sq F (Fm.fS hF).1 _ G.nat j;have r:F.acY 1000000000=true:=d.acY _ aa_
  by_cases s:oN t c.acW 1=0
  ·have o:=s;rw[<-zq (a:=_=_),<-ne_eq,<-da] at o;rw[cK o,cK o,ic s];have D:dG c.acW t .nat:=KF G g (.inl rfl) s;have J:sa c.acW F xP:=⟨hF,aaG,.nat,d,.zero⟩;rw[show eF 4 []=some xP from Dr,cH];rcases sb i (W (n+2) (n'+1) VW VW p c h) J with⟨e,z,l,m,he,h1,u,x,hu⟩|⟨f,m,l,h1,u,x,hu⟩
   ·rw[h1,u,x,cJ,cJ,cO (by rw[da];exact he),cO (by rw[da];exact he)];exact kV.no he rfl rfl rfl
   ·rw[h1,u,x,cJ,cJ,cK nz,cK nz,fZ];rcases h.room (v:=1) (k:=1) VW VW with⟨y,A,T,r4⟩|⟨y,A,T⟩
    ·have y:ds p.eK 1 1=some 0:=y;have A:dq c 1 1=some 0:=A;rw[y,A,cH,cH,cK nz,cK nz,mY VW];obtain⟨p1,c1,e1,e2,e3,H,K⟩:=h.below Ty.fL T;obtain⟨p2,I,b1,b2,U,M,V⟩:=e3.with (f:=F) (by rw[H];exact⟨hF,d⟩) (by rw[K];simpa using r4)
     have l1:en F 1 (dZ .i64 1 1)=some F:=by
      rw[ed VW VW];have:=(tU hF r (f:=1) (c:=0) VW VW).1;rw[show F.up ((1:Nat):Int) ((0:Nat):Int)=F from xR] at this;exact this
     have l2:en F 1 1=some (F.up 1 1):=(tU hF r (f:=1) (c:=1) VW VW).1;have l3:fH FU F 1 1=some (F.up 1 1):=(tU hF r (f:=1) (c:=1) VW VW).2;rw[e1,e2,cH,cH,l1,cH,b1,b2,cH,cH,l2,l3,cH,cH];rw[show eF 5 [v0]=some (jL v0)from GL aaK,cH];have hi:=X (n+2) (n'+1) VW VW p2 I U;have O:I.acW.length<=16:=U.pl.nv
     have E:I.acW=c.acW++[.nat]:=by rw[M,H]
     have P:sa I.acW (F.up 1 1) (jL v0):=⟨Jh hF VW VW,W2,.nat,by
      rw[E];have:=d.up c.acW [.nat] [.nat] rfl
      simpa using this,by rw[E];exact .succ ya⟩
     rcases sb O hi P with⟨e,z,Q,R,he,h1,u,x,B⟩|⟨f',R,Q,h1,u,x,B⟩
     ·rw[M,V,H,K] at h1;rw[h1,u,x,cJ,cJ,cO (by rw[da];exact he),cO (by rw[da];exact he)];exact kV.no he rfl rfl rfl
     ·rw[M,V,H,K] at h1;obtain⟨lf,f1,f2,f3⟩:=wJ i D g;have C:sa c.acW F t:=⟨hF,g,.nat,d,D⟩;obtain⟨u1,u2,u3⟩:=B.out (by have:=B.len;omega) (k:=1) VW;have u1:fm Q 1=some (w7 ((1:Nat):Int) Q):=u1;have u2:eg (R:Int) 1=some ((R/2^1:Nat):Int):=u2;obtain⟨q,v1,v2,v3,_⟩:=f3.union hu (by have:=f3.len;omega) (by have:=hu.len;omega);obtain⟨q',w1,w2,w3,_⟩:=v3.union u3 (by have:=v3.len;omega) (by have:=u3.len;omega);rw[h1,u,x,cJ,cJ,cK nz,cK nz,fZ,(C.both VW).1,(C.both VW).2];obtain⟨w,e,hw⟩:∃w e,oK F t=(w,e):=⟨_,_,rfl⟩;rw[hw,cJ,cJ,f1,f2,cH,cH,u2,v1,cH,cH,u1,cH,w1,cH];simp only[];rw[v2,w2];rcases qM F t with S|⟨aa,S⟩
      ·rw[S] at hw;obtain⟨rfl,rfl⟩:=iE hw;rw[jo aaK];exact kV.no aaK rfl rfl rfl
      ·rw[S] at hw;obtain⟨rfl,rfl⟩:=iE hw;rw[ic rfl];exact kV.yes (f:=Fm.nj 0 F t) rfl rfl rfl w3 C.put VW
    ·have y:ds p.eK 1 1=some 3:=y;have A:dq c 1 1=some 3:=A;rw[y,A,cH,cH,cO aaK,cO aaK,kG VW];exact kV.no aaK rfl rfl rfl
  ·rw[cO (by rw[da];exact s),cO (by rw[da];exact s),jo s];exact kV.no s rfl rfl rfl
 ·rw[cO (by rw[da];exact j),cO (by rw[da];exact j),jo j];exact kV.no j rfl rfl rfl
def MQ{L:List Fm}{t:Tm}(g:t.err=0){F:Fm}(hF:F.err=0){a b:Pf}{N:Nat}(W:iA L a N)(X:iA L b N):iA L (.mk 17 0 .z [t] [F] [a,b]) (N+5):=by
 refine iA.of λn n' hn Y p c h=>?_;have j:=h.pl.nv;have G:=h.pl.ctx;have Z:=(Fm.fS hF).2;obtain⟨t1,t2,_⟩:=sn G.o6 aa_ hF;obtain⟨s1,s2⟩:=has_both G j rfl g 2;rw[show n'+4=n'+2+2 from rfl,Tr,Ud,Ur,h.pl.acW,rS Ty.oS VW,cH,t1,cH,dS aa_,cX,fx,t2,cH,s1,s2,cH,cH]
 by_cases o:F.vn (c.acW++[.o6])=0
 ·have r:=o;rw[<-zq (a:=_=_),<-ne_eq,<-da] at r;rw[cK r,cK r,ic o];have d:=sq F (Fm.fS hF).1 _ G.o6 o;have i:F.acY 1000000000=true:=d.acY _ aa_
  by_cases s:oN t c.acW 2=0
  ·have r:=s;rw[<-zq (a:=_=_),<-ne_eq,<-da] at r;rw[cK r,cK r,ic s];have D:dG c.acW t .o6:=KF G g (.inr rfl) s;have J:sa c.acW F (.mk 7 0 .z []):=⟨hF,Ua,.o6,d,.nil⟩;rw[show eF 7 []=some (.mk 7 0 .z [])from Dr,cH];rcases sb j (W (n+2) (n'+1) VW VW p c h) J with⟨e,z,l,m,he,h1,u,x,hu⟩|⟨f,m,l,h1,u,x,hu⟩
   ·rw[h1,u,x,cJ,cJ,cO (by rw[da];exact he),cO (by rw[da];exact he)];exact kV.no he rfl rfl rfl
   ·rw[h1,u,x,cJ,cJ,cK nz,cK nz,fZ];rcases h.room (v:=2) (k:=1) VW VW with⟨y,A,T,r4⟩|⟨y,A,T⟩
    ·have y:ds p.eK 2 1=some 0:=y;have A:dq c 2 1=some 0:=A;rw[y,A,cH,cH,cK nz,cK nz,mY VW];obtain⟨p1,c1,e1,e2,e3,H,K⟩:=Qf h T;obtain⟨p2,I,b1,b2,U,M,V⟩:=e3.with (f:=F.up 1 1) (by rw[H];exact⟨Jh hF VW VW,by have:=d.up c.acW [.o6] [.nat] rfl;simpa using this⟩) (by rw[K];simpa using r4)
     have l1:en F 1 (dZ .i64 2 1)=some (F.up 1 1):=by
      rw[ed VW VW];exact(tU hF i (f:=1) (c:=1) VW VW).1
     have l2:en F 1 2=some (F.up 1 2):=(tU hF i (f:=1) (c:=2) VW VW).1;have l3:fH FU F 1 1=some (F.up 1 1):=(tU hF i (f:=1) (c:=1) VW VW).2;have l4:fH FU F 1 2=some (F.up 1 2):=(tU hF i (f:=1) (c:=2) VW VW).2;rw[e1,e2,cH,cH,l1,cH,l3,cH,b1,b2,cH,cH,l2,l4,cH,cH];rw[show eF 8 [v1,v0]=some (.mk 8 0 .z [v1,v0])from tc aaK aaK,cH];have hi:=X (n+2) (n'+1) VW VW p2 I U;have O:I.acW.length<=16:=U.pl.nv
     have E:I.acW=c.acW++[.nat]++[.o6]:=by rw[M,H]
     have P:sa I.acW (F.up 1 2) (.mk 8 0 .z [v1,v0]):=⟨Jh hF VW VW,Xe,.o6,by
      rw[E];have:=d.up c.acW [.o6] [.nat,.o6] rfl
      simpa using this,by rw[E];exact .cons K0 ya⟩
     rcases sb O hi P with⟨e,z,Q,R,he,h1,u,x,B⟩|⟨f',R,Q,h1,u,x,B⟩
     ·rw[M,V,H,K] at h1;rw[h1,u,x,cJ,cJ,cO (by rw[da];exact he),cO (by rw[da];exact he)];exact kV.no he rfl rfl rfl
     ·rw[M,V,H,K] at h1;obtain⟨lf,f1,f2,f3⟩:=wJ j D g;have C:sa c.acW F t:=⟨hF,g,.o6,d,D⟩;obtain⟨u1,u2,u3⟩:=B.out (by have:=B.len;omega) (k:=2) VW;have u1:fm Q 2=some (w7 ((2:Nat):Int) Q):=u1;have u2:eg (R:Int) 2=some ((R/2^2:Nat):Int):=u2;obtain⟨q,v1,v2,v3,_⟩:=f3.union hu (by have:=f3.len;omega) (by have:=hu.len;omega);obtain⟨q',w1,w2,w3,_⟩:=v3.union u3 (by have:=v3.len;omega) (by have:=u3.len;omega);rw[h1,u,x,cJ,cJ,cK nz,cK nz,fZ,(C.both VW).1,(C.both VW).2];obtain⟨w,e,hw⟩:∃w e,oK F t=(w,e):=⟨_,_,rfl⟩;rw[hw,cJ,cJ,f1,f2,cH,cH,u2,v1,cH,cH,u1,cH,w1,cH];simp only[];rw[v2,w2];rcases qM F t with S|⟨aa,S⟩
      ·rw[S] at hw;obtain⟨rfl,rfl⟩:=iE hw;rw[jo aaK];exact kV.no aaK rfl rfl rfl
      ·rw[S] at hw;obtain⟨rfl,rfl⟩:=iE hw;rw[ic rfl];exact kV.yes (f:=Fm.nj 0 F t) rfl rfl rfl w3 C.put VW
    ·have y:ds p.eK 2 1=some 3:=y;have A:dq c 2 1=some 3:=A;rw[y,A,cH,cH,cO aaK,cO aaK,kG VW];exact kV.no aaK rfl rfl rfl
  ·rw[cO (by rw[da];exact s),cO (by rw[da];exact s),jo s];exact kV.no s rfl rfl rfl
 ·rw[cO (by rw[da];exact o),cO (by rw[da];exact o),jo o];exact kV.no o rfl rfl rfl
def Tm.xw{t:Tm}(h:t.ok=true)(hn:t.acU<=4096):t.err=0:=by grind[Tm.err]
def Xq(n:Nat)(c:cS)(t:Tm):dc (n+1) c (.mk 18 0 .z [t] [] [])=cI (kv t t) λa=>cI (fX c t 1) λb=>some (a,[],b):=by rw[dc];rfl
def Rx(L:List Fm)(t:Tm)(g:List Ty)(hs:List Fm):pA L 18 0 .z [t] [] (Pf.tO L []) g hs=k_ (oN t g 1) (.inl (.mk 1 .z [t,t] [],0)):=rfl
def XM(n:Nat)(L:List Fm)(t:Tm)(p:cQ):qn n L (.mk 18 0 .z [t] [] []) p=cI (gw p.acW t) λa=>if(dw a 0) then some (⟨fR,0⟩,a)else some (⟨.mk 1 .z [t,t] [],0⟩,0):=rfl
def P5{L:List Fm}{t:Tm}(a:t.err=0):iA L (.mk 18 0 .z [t] [] []) 5:=by
 refine iA.of (N:=0) λn n' _ _ p c h=>?_;have e:=h.pl.nv;have f:=h.pl.ctx;obtain⟨a1,a2⟩:=Tm.fS a;have hw:=t.iN a1;rw[show n'+4=n'+3+1 from rfl,Xq,Rx,XM,h.pl.acW,xd a1 f VW,(has_both f e rfl a 1).2,Bx VW VW,cH,cH,cH]
 by_cases b:oN t c.acW 1=0
 ·have d:dG c.acW t .nat:=KF f a (.inl rfl) b;rw[cK (by rw[da];simpa using b),ic b,b];refine kV.yes rfl rfl rfl .nil (.eq d d) ?_;rw[Fm.cN];simp only[c_];omega
 ·rw[cO (by rw[da];exact b),jo b];exact kV.no b rfl rfl rfl
def Ui(n:Nat)(c:cS)(F:Fm)(a b:Pf):dc (n+2) c (.mk 19 0 .z [] [F] [a,b])=ik (fD (eJ c.acW [.nat])<|cI (jV (fa c.acW [.nat]) F) λe=>if(dw e 0) then some (fR,[],e)else cT (dj n c a) λd f=>if(dw f 0) then some (fR,[],f)else if(dw d.cR.acS 1) then some (fR,[],10)else cI (de d.cR.c9 0) λo=>cT (d_ n c b F o) λp g=>if(dw g 0) then some (fR,[],g)else cI (de d.cR.c9 1) λh=>cT (iQ F h) λi j=>some (i,p,j)) λk l m=>some (k,l,m):=by
 rw[dc];rw[m8];rfl
def TP(L:List Fm)(F:Fm)(a b:Pf)(g:List Ty)(hs:List Fm):pA L 19 0 .z [] [F] (Pf.tO L [a,b]) g hs=k_ (F.vn (g++[.nat])) (pbind (G6 (a.inf L g hs) 1) λa _=>pbind (JZ (b.inf L g hs) F (a.c9.getD 0 Tm.z)) λ_ n=>k_ (oK F (a.c9.getD 1 Tm.z)).2 (.inl ((oK F (a.c9.getD 1 Tm.z)).1,n))):=rfl
def TW(n:Nat)(L:List Fm)(F:Fm)(a b:Pf)(p:cQ):qn (n+1) L (.mk 19 0 .z [] [F] [a,b]) p=cI (e_ p.acW [.nat]) λj=>cI (dy FU j F) λc=>if(dw c 0) then some (⟨fR,0⟩,c)else cT (dB n L a p 1) λd e=>if(dw e 0) then some (⟨fR,0⟩,e)else cI (de d.cR.c9 0) λk=>cT (dD n L b p F k) λl f=>if(dw f 0) then some (⟨fR,0⟩,f)else cI (de d.cR.c9 1) λg=>cT (gZ F g) λh i=>some (⟨h,l.fk⟩,i):=by
 show jl (n+1) L (.mk 19 0 .z [] [F] [a,b]) p=_;rw[jl];rfl
def MV{L:List Fm}{F:Fm}(hF:F.err=0){a b:Pf}{N:Nat}(D:iA L a N)(E:iA L b N):iA L (.mk 19 0 .z [] [F] [a,b]) (N+5):=by
 refine iA.of λn n' hn G p c h=>?_;have q:=h.pl.nv;have A:=h.pl.ctx;have H:=(Fm.fS hF).2;obtain⟨t1,t2,_⟩:=sn A.nat aa_ hF;rw[show n'+4=n'+2+2 from rfl,Ui,TP,TW,h.pl.acW,rS Ty.fL VW,cH,t1,cH,dS aa_,cX,fx,t2,cH]
 by_cases i:F.vn (c.acW++[.nat])=0
 ·have r:=i;rw[<-zq (a:=_=_),<-ne_eq,<-da] at r;rw[cK r,cK r,ic i];have g:=sq F (Fm.fS hF).1 _ A.nat i;rcases mm (D (n+2) (n'+2) VW VW p c h) 1 with⟨e,he,h1,j,d⟩|⟨f,m,l,h1,j,d,hu,B,s⟩
  ·rw[h1,j,cJ,cO (by rw[da];exact he)];rcases d with d|⟨f,l,m,d,s,rfl,_⟩
   ·rw[d,cJ,cO (by rw[da];exact he)];exact kV.no he rfl rfl rfl
   ·rw[d,cJ,cK nz,cO (by rw[da];exact s)];exact kV.no he rfl rfl rfl
  ·obtain⟨x,y,rfl,C,hy⟩:=B.ty.ZD s;have o:=B.acU;rw[Fm.cN] at o;simp only[c_] at o;have t:x.err=0:=Tm.xw C.ok VW;have u:y.err=0:=Tm.xw hy.ok VW;have v:sa c.acW F x:=⟨hF,t,.nat,g,C⟩;have k:sa c.acW F y:=⟨hF,u,.nat,g,hy⟩;rw[h1,j,d,cJ,cJ,cK nz,cK nz,cK aa4,fZ];simp only[Fm.fU,dv,e9,iB,mc,cH,Xd,Uo];rcases sb q (E (n+2) (n'+1) VW VW p c h) v with⟨e,z,l,m,he,h1,j,d,hu⟩|⟨f,m,l,h1,j,d,hu⟩
   ·rw[h1,j,d,cJ,cJ,cO (by rw[da];exact he),cO (by rw[da];exact he)];exact kV.no he rfl rfl rfl
   ·rw[h1,j,d,cJ,cJ,cK nz,cK nz,fZ,(k.both VW).1,(k.both VW).2];rcases qM F y with w|⟨I,w⟩
    ·rw[w,cJ,cJ,jo aaK];exact kV.no aaK rfl rfl rfl
    ·rw[w,cJ,cJ,ic rfl];exact kV.yes (f:=Fm.nj 0 F y) rfl rfl rfl hu k.put VW
 ·rw[cO (by rw[da];exact i),cO (by rw[da];exact i),jo i];exact kV.no i rfl rfl rfl
def Yb(f:Fm)(l:List Int):Option (Fm×List Int×Int):=
 df (λ(d:Bool)=>if d then some (fR,[],10)else cI (de f.acT 0) λa=>cI (j5 f.cP a.cP) λb=>cI (ig b) λe=>if(dw e 0) then some (fR,[],4)else cI (de a.acT 0) λg=>cI (fH FU g 2 1) λh=>cI (eF 3 [v1,v0]) λi=>cT (iQ h i) λj k=>cI (iZ 4 f.cP j) λm=>cI (iZ 5 b m) λn=>some (n,l,k)) λc=>if(dw f.acS 4) then c true else cI (de f.acT 0) λo=>c (dw o.acS 5)
def T2{f:Fm}{l:List Int}(h:f.acS≠4):Yb f l=some (fR,[],10):=by grind[dw,da,Yb,c6]
def Ut{s:Ty}{x:Fm}{l:List Int}(h:x.acS≠5):Yb (.mk 4 s [] [x]) l=some (fR,[],10):=by
 have o:dw x.acS 5=true:=by rw[da];exact h
 have e:Yb (.mk 4 s [] [x]) l=(λ(c:Bool)=>if c then some (fR,[],10)else cI (de [x] 0) λa=>cI (j5 s a.cP) λb=>cI (ig b) λd=>if(dw d 0) then some (fR,[],4)else cI (de a.acT 0) λf=>cI (fH FU f 2 1) λg=>cI (eF 3 [v1,v0]) λi=>cT (iQ g i) λj k=>cI (iZ 4 s j) λm=>cI (iZ 5 b m) λn=>some (n,l,k)) (dw x.acS 5):=rfl
 grind
def ZO{s u:Ty}{y:Fm}{l:List Int}:Yb (.mk 4 s [] [.mk 5 u [] [y]]) l=cI (j5 s u) λa=>cI (ig a) λb=>if(dw b 0) then some (fR,[],4)else cI (fH FU y 2 1) λc=>cI (eF 3 [v1,v0]) λd=>cT (iQ c d) λe f=>cI (iZ 4 s e) λg=>cI (iZ 5 a g) λh=>some (h,l,f):=rfl
def S5(n:Nat)(c:cS)(a:Pf):dc (n+2) c (.mk 20 0 .z [] [] [a])=ik (cT (dj n c a) λb d=>if(dw d 0) then some (fR,[],d)else Yb b.cR b.fk) λe f g=>some (e,f,g):=by
 rw[dc];rw[mx];rfl
def SA(L:List Fm)(a:Pf)(g:List Ty)(hs:List Fm):pA L 20 0 .z [] [] (Pf.tO L [a]) g hs=pbind (G6 (a.inf L g hs) 4) λa m=>wq ((a.acT.getD 0 fR).acS≠5) 10 (wq ((Ty.fn a.cP (a.acT.getD 0 fR).cP).err≠0) 4 (wq ((oK (((a.acT.getD 0 fR).acT.getD 0 fR).up 2 1) (iI v1 v0)).2≠0) 4 (.inl (.mk 5 (Ty.fn a.cP (a.acT.getD 0 fR).cP) [] [.mk 4 a.cP [] [(oK (((a.acT.getD 0 fR).acT.getD 0 fR).up 2 1) (iI v1 v0)).1]],m)))):=rfl
def Zz(f:Fm)(u:Int):Option (cL×Int):=
 cI (de f.acT 0) λa=>if(dw a.acS 5) then some (⟨fR,0⟩,10)else cI (oo a.cP [f.cP]) λb=>cI (de a.acT 0) λd=>cI (en d 2 1) λe=>cI (gy 1) λg=>cI (gy 0) λh=>cI (rU g [h]) λi=>cT (gZ e i) λj k=>df (λ(l:Bool)=>if l then some (⟨fR,0⟩,4)else cI (ja 4 f.cP j) λm=>cI (ja 5 b m) λn=>some (⟨n,u⟩,0)) λc=>if(dw k 0) then c true else cI (ll b) λo=>c (dw o 0)
def UP{s:Ty}{x:Fm}{u:Int}(h:x.acS≠5):Zz (.mk 4 s [] [x]) u=some (⟨fR,0⟩,10):=by grind[dw,da,Zz,Fm.dd,dv,cH]
def R1(n:Nat)(L:List Fm)(a:Pf)(p:cQ):qn (n+1) L (.mk 20 0 .z [] [] [a]) p=cT (dB n L a p 4) λb c=>if(dw c 0) then some (⟨fR,0⟩,c)else Zz b.cR b.fk:=by
 show jZ (n+1) L (.mk 20 0 .z [] [] [a]) p=_;rfl
def Zg{s u:Ty}{y b:Fm}{m:Int}{q:Fm×Int}(h1:en y 2 1=some b)(v:gZ b (iI v1 v0)=some q)(x:ll (.fn s u)=some (Ty.fn s u).err):Zz (.mk 4 s [] [.mk 5 u [] [y]]) m=if q.2=0/\(Ty.fn s u).err=0 then some (⟨.mk 5 (.fn s u) [] [.mk 4 s [] [q.1]],m⟩,0)else some (⟨fR,0⟩,4):=by
 obtain⟨w,e⟩:=q
 have z:Zz (.mk 4 s [] [.mk 5 u [] [y]]) m=cI (oo u [s]) λa=>cI (en y 2 1) λf=>cI (gy 1) λg=>cI (gy 0) λi=>cI (rU g [i]) λj=>cT (gZ f j) λk l=>df (λ(n:Bool)=>if n then some (⟨fR,0⟩,4)else cI (ja 4 s k) λo=>cI (ja 5 a o) λp=>some (⟨p,m⟩,0)) λc=>if(dw l 0) then c true else cI (ll a) λr=>c (dw r 0):=by
  rfl
 rw[z,PW,cH,h1,cH,show gy 1=some v1 from rfl,cH,show gy 0=some v0 from rfl,cH,Cm,cH,show Tm.mk 3 0 (.mk 0 []) [v1,v0]=iI v1 v0 from rfl,v,cJ,c6,x,cH]
 by_cases he:e=0
 ·subst he;rw[cK nz]
  by_cases d:(Ty.fn s u).err=0
  ·have t:dw (Ty.fn s u).err 0=false:=by rw[d];rfl
   rw[t,cO ⟨rfl,d⟩];rfl
  ·have t:dw (Ty.fn s u).err 0=true:=by rw[da];exact d
   rw[t,cK (λh=>d h.2)];rfl
 ·rw[cO (by rw[da];exact he),cK (λh=>he h.1)];rfl
def Lt{L:List Fm}{a:Pf}{N:Nat}(D:iA L a N):iA L (.mk 20 0 .z [] [] [a]) (N+5):=by
 refine iA.of λn n' hn E p c h=>?_;have F:=h.pl.nv;rw[show n'+4=n'+2+2 from rfl,S5,SA,R1];rcases mm (D (n+2) (n'+2) VW VW p c h) 4 with⟨e,he,h1,k,i⟩|⟨f,m,l,h1,k,i,hu,B,o⟩
 ·rw[h1,k,cJ,cO (by rw[da];exact he)];rcases i with i|⟨f,l,m,i,o,rfl,_⟩
  ·rw[i,cJ,cO (by rw[da];exact he)];exact kV.no he rfl rfl rfl
  ·rw[i,cJ,cK nz,T2 o];exact kV.no he rfl rfl rfl
 ·obtain⟨s,x,rfl,hs,C⟩:=B.ty.Eb o (.inl rfl);have r:=B.sub (x:=x) aa4 C;rw[h1,k,i,cJ,cJ,cK nz,cK nz,fZ]
  by_cases d:x.acS=5
  ·obtain⟨u,y,rfl,t,hy⟩:=C.Eb d (.inr (.inl rfl));have g:=r.sub (x:=y) aa4 hy;have G:=ec hs;have H:=ec t;have I:=g.acU
   have J:(Ty.fn s u).acU<=1000:=by rw[Ty.iX];omega
   have j:y.acY 1000000000=true:=hy.acY _ aa_;have K:en y 2 1=some (y.up 2 1):=(tU g.err j (f:=2) (c:=1) VW VW).1;have M:fH FU y 2 1=some (y.up 2 1):=(tU g.err j (f:=2) (c:=1) VW VW).2
   have v:sa (c.acW++[.fn s u]++[s]) (y.up 2 1) (iI v1 v0):=⟨Jh g.err VW VW,aaK,u,by
    have:=hy.up c.acW [s,u] [.fn s u] aa4
    simpa using this,.app K0 ya⟩
   obtain⟨O,P⟩:=v.both aa_;have Q:=NT;have hw:=Fm.iN _ v.put.ok;simp only[Fm.dd,Fm.dR,Fm.dn,Xd];rw[mY aaK,Zg K O (y5 VW),ZO,hQ VW VW,cH,lO VW,cH]
   by_cases b:(Ty.fn s u).err=0
   ·have w:¬dw (Ty.fn s u).err 0=true:=by rw[da];simpa using b
    rw[cK w,mY (by simpa using b),M,cH,show eF 3 [v1,v0]=some (iI v1 v0)from tc aaK aaK,cH,P];rcases qM (y.up 2 1) (iI v1 v0)with A|⟨R,A⟩
    ·rw[A,cK (λh=>by cases h.1),cJ,kG aaK,Dz VW VW,cH];rw[Dz VW (by rw[Fm.ea];simp only[c_];omega),cH];exact kV.no aaK rfl rfl rfl
    ·rw[A,cO ⟨rfl,b⟩,cJ,mY (λh=>h rfl),Dz VW VW,cH];rw[Dz VW (by rw[Fm.ea];simp only[c_];omega),cH];refine kV.yes (f:=.mk 5 (.fn s u) [] [.mk 4 s [] [Fm.nj 0 (y.up 2 1) (iI v1 v0)]]) rfl rfl rfl hu (.q (.inr (.inl rfl)) b (.q (.inl rfl) hs v.put)) ?_;rw[Fm.cN];simp only[c_];rw[Fm.cN];simp only[c_];omega
   ·have w:dw (Ty.fn s u).err 0=true:=by rw[da];exact b
    rw[cO w,kG b,cK (λh=>b h.2)];exact kV.no aaK rfl rfl rfl
  ·simp only[Fm.dd,Xd];rw[UP d,Ut d,kG d];exact kV.no aaK rfl rfl rfl
inductive zU:Pf->Prop
 |hyp {i}:0<=i->zU (.mk 1 i .z [] [] [])|N9 {i}:0<=i->zU (.mk 2 i .z [] [] [])|Z2 {a b}:zU a->zU b->zU (.mk 3 0 .z [] [] [a,b])|and {k a}:k=4\/k=5->zU a->zU (.mk k 0 .z [] [] [a])|Z0 {F a}:F.err=0->zU a->zU (.mk 6 0 .z [] [F] [a])|Ze {a b}:zU a->zU b->zU (.mk 7 0 .z [] [] [a,b])|all {k s a}:k=8\/k=12->s.err=0->zU a->zU (.mk k 0 s [] [] [a])|atE {k t a}:k=9\/k=13->t.err=0->zU a->zU (.mk k 0 .z [t] [] [a])|ex {k t F a}:k=10\/k=14->t.err=0->F.err=0->zU a->zU (.mk k 0 .z [t] [F] [a])|opn {k a b}:k=11\/k=15->zU a->zU b->zU (.mk k 0 .z [] [] [a,b])|ind {k t F a b}:k=16\/k=17->t.err=0->F.err=0->zU a->zU b->zU (.mk k 0 .z [t] [F] [a,b])|refl {t}:t.err=0->zU (.mk 18 0 .z [t] [] [])|subst {F a b}:F.err=0->zU a->zU b->zU (.mk 19 0 .z [] [F] [a,b])|choice {a}:zU a->zU (.mk 20 0 .z [] [] [a])
mutual
def Pf.yt:Pf->Nat
 |.mk _ _ _ _ _ l=>1+Pf.vq l
def Pf.vq:List Pf->Nat
 |[]=>0|p::l=>p.yt+Pf.vq l
end
def iA.mono{L:List Fm}{P:Pf}{N M:Nat}(h:iA L P N)(a:N<=M):iA L P M:=λn n' h1 b=>h n n' VW VW
def RG{L:List Fm}{P:Pf}(h:zU P):iA L P (5*P.yt):=by
 induction h with
 |hyp hi=>exact S9 hi|N9 hi=>exact RB hi|Z2 _ _ a b=>exact(Qu (a.mono (ada _ _)) (b.mono (ac' _ _))).mono (by simp only[Pf.yt,Pf.vq];omega)|and c _ a=>
  rcases c with rfl|rfl
  ·exact(Py a).mono (by simp only[Pf.yt,Pf.vq];omega)
  ·exact(Qr a).mono (by simp only[Pf.yt,Pf.vq];omega)
 |Z0 hF _ a=>exact(Pt hF a).mono (by simp only[Pf.yt,Pf.vq];omega)|Ze _ _ a b=>exact(Po (a.mono (ada _ _)) (b.mono (ac' _ _))).mono (by simp only[Pf.yt,Pf.vq];omega)|all c hs _ a=>
  rcases c with rfl|rfl
  ·exact(Pw hs a).mono (by simp only[Pf.yt,Pf.vq];omega)
  ·exact(N' hs a).mono (by simp only[Pf.yt,Pf.vq];omega)
 |atE c d _ a=>
  rcases c with rfl|rfl
  ·exact(QT d a).mono (by simp only[Pf.yt,Pf.vq];omega)
  ·exact(PJ d a).mono (by simp only[Pf.yt,Pf.vq];omega)
 |ex c d hF _ a=>
  rcases c with rfl|rfl
  ·exact(Qj d hF a).mono (by simp only[Pf.yt,Pf.vq];omega)
  ·exact(Pa d hF a).mono (by simp only[Pf.yt,Pf.vq];omega)
 |opn c _ _ a b=>
  rcases c with rfl|rfl
  ·exact(Lh (a.mono (ada _ _)) (b.mono (ac' _ _))).mono (by simp only[Pf.yt,Pf.vq];omega)
  ·exact(LD (a.mono (ada _ _)) (b.mono (ac' _ _))).mono (by simp only[Pf.yt,Pf.vq];omega)
 |ind c d hF _ _ a b=>
  rcases c with rfl|rfl
  ·exact(MR d hF (a.mono (ada _ _)) (b.mono (ac' _ _))).mono (by simp only[Pf.yt,Pf.vq];omega)
  ·exact(MQ d hF (a.mono (ada _ _)) (b.mono (ac' _ _))).mono (by simp only[Pf.yt,Pf.vq];omega)
 |refl d=>exact P5 d|subst hF _ _ a b=>exact(MV hF (a.mono (ada _ _)) (b.mono (ac' _ _))).mono (by simp only[Pf.yt,Pf.vq];omega)|choice _ a=>exact(Lt a).mono (by simp only[Pf.yt,Pf.vq];omega)
mutual
def Pf.acU:Pf->Nat
 |.mk _ _ _ ts a l=>1+c_ Tm.acU ts+c_ Fm.acU a+Pf.nc l
def Pf.nc:List Pf->Nat
 |[]=>0|p::l=>p.acU+Pf.nc l
end
def Pf.q7:∀l:List Pf,Pf.nc l=c_ Pf.acU l
 |[]=>by rw[Pf.nc];rfl|p::l=>by rw[Pf.nc,Pf.q7 l];rfl
theorem Pf.cN(k i:Int)(s:Ty)(ts:List Tm)(a:List Fm)(l:List Pf):(Pf.mk k i s ts a l).acU=1+c_ Tm.acU ts+c_ Fm.acU a+c_ Pf.acU l:=by rw[Pf.acU,Pf.q7]
mutual
def Pf.wt:Pf->Nat
 |.mk _ _ s ts a l=>1+s.acU+c_ Tm.wt ts+c_ Fm.wt a+Pf.NW l
def Pf.NW:List Pf->Nat
 |[]=>0|p::l=>p.wt+Pf.NW l
end
def Pf.DH:∀l:List Pf,Pf.NW l=c_ Pf.wt l
 |[]=>by rw[Pf.NW];rfl|p::l=>by rw[Pf.NW,Pf.DH l];rfl
theorem Pf.ea(k i:Int)(s:Ty)(ts:List Tm)(a:List Fm)(l:List Pf):(Pf.mk k i s ts a l).wt=1+s.acU+c_ Tm.wt ts+c_ Fm.wt a+c_ Pf.wt l:=by rw[Pf.wt,Pf.DH]
def Pf.gX(p:Pf):1<=p.wt:=by cases p;rw[Pf.ea];omega
def Pf.ind{p:Pf->Prop}(h:∀k i s ts a l,(∀t∈l,p t)->p (.mk k i s ts a l))(t:Pf):p t:=by
 match t with
 |.mk k i s ts a l=>exact h k i s ts a l λx b=>Pf.ind h x
termination_by SizeOf.sizeOf t
decreasing_by
 have:=Wz b;simp only[Pf.mk.sizeOf_spec];omega
def Pf.gC(p:Pf):p.acU<=p.wt:=by
 induction p using Pf.ind with
 |h k i s ts a l b=>
  rw[Pf.cN,Pf.ea];have h1:=jK (l:=ts) (λx _=>Tm.gC x);have c:=jK (l:=a) (λx _=>Fm.gC x);have d:=jK (l:=l) b;omega
def Pf.sig(k:Int):Option (Bool×Bool×Nat×Nat×Nat):=
 if k=1\/k=2 then some (true,false,0,0,0)
 else if k=3\/k=7\/k=11\/k=15 then some (false,false,0,0,2)
 else if k=4\/k=5\/k=20 then some (false,false,0,0,1)
 else if k=6 then some (false,false,0,1,1)
 else if k=8\/k=12 then some (false,true,0,0,1)
 else if k=9\/k=13 then some (false,false,1,0,1)
 else if k=10\/k=14 then some (false,false,1,1,1)
 else if k=16\/k=17 then some (false,false,1,1,2)
 else if k=18 then some (false,false,1,0,0)
 else if k=19 then some (false,false,0,1,2)
 else none
def Pf.node(k i:Int)(s:Ty)(d nf e:Nat):Bool:=
 match Pf.sig k with
 |none=>false|some (f,ty,a,b,c)=>decide (d=a)&&decide (nf=b)&&decide (e=c)&&decide (0<=i)&&(f||decide (i=0))&&(if ty then decide (s.err=0)else s.rq)
mutual
def Pf.ok:Pf->Bool
 |.mk k i s ts a l=>Pf.node k i s ts.length a.length l.length&&ts.all Tm.ok&&a.all Fm.ok&&Pf.Iz l
def Pf.Iz:List Pf->Bool
 |[]=>true|p::l=>p.ok&&Pf.Iz l
end
def Pf.yy:∀l:List Pf,Pf.Iz l=l.all Pf.ok
 |[]=>by rw[Pf.Iz];rfl|p::l=>by rw[Pf.Iz,Pf.yy l];rfl
theorem Pf.fV(k i:Int)(s:Ty)(ts:List Tm)(a:List Fm)(l:List Pf):(Pf.mk k i s ts a l).ok=(Pf.node k i s ts.length a.length l.length&&ts.all Tm.ok&&a.all Fm.ok&&l.all Pf.ok):=by rw[Pf.ok,Pf.yy]
def PY(t:Tm):Bool:=decide (t.acU<=4096)
def SO(f:Fm):Bool:=decide (f.acU<=4096)
mutual
def Pf.small:Pf->Bool
 |.mk _ _ _ ts a l=>ts.all PY&&a.all SO&&Pf.GK l
def Pf.GK:List Pf->Bool
 |[]=>true|p::l=>p.small&&Pf.GK l
end
def Pf.II:∀l:List Pf,Pf.GK l=l.all Pf.small
 |[]=>by rw[Pf.GK];rfl|p::l=>by rw[Pf.GK,Pf.II l];rfl
def Pf.CJ(k i:Int)(s:Ty)(ts:List Tm)(a:List Fm)(l:List Pf):(Pf.mk k i s ts a l).small=(ts.all PY&&a.all SO&&l.all Pf.small):=by rw[Pf.small,Pf.II]
def Pf.err(p:Pf):Int:=if p.ok then(if p.small=true/\p.acU<=16384 then 0 else 4)else 2
def WB{k:Int}(h:Pf.sig k≠none):k=1\/k=2\/k=3\/k=4\/k=5\/k=6\/k=7\/k=8\/k=9\/k=10\/k=11\/k=12\/k=13\/k=14\/k=15\/k=16\/k=17\/k=18\/k=19\/k=20:=by
 refine adR λhn=>h ?_;unfold Pf.sig;simp only[not_or] at hn;rw[cK VW,cK VW,cK VW,cK VW,cK VW,cK VW,cK VW,cK VW,cK VW,cK VW]
def L1{k:Int}(h:k<1\/20<k):Pf.sig k=none:=by
 unfold Pf.sig;rw[cK VW,cK VW,cK VW,cK VW,cK VW,cK VW,cK VW,cK VW,cK VW,cK VW]
def Qd(k:Int):(Pf.sig k=none/\∃r,o9 k=some (r,false))\/∃d ty a b c r,Pf.sig k=some (d,ty,a,b,c)/\o9 k=some (r,true)/\r.acV=d/\r.typed=ty/\r.c9=((a:Nat):Int)/\r.dV=((b:Nat):Int)/\r.acT=((c:Nat):Int):=by
 by_cases h:k<1\/20<k
 ·refine .inl ⟨L1 h,?_⟩;unfold o9;rw[cO (by rw[lN,r5,ki,ib];omega)];exact⟨_,rfl⟩
 ·have e:k=1\/k=2\/k=3\/k=4\/k=5\/k=6\/k=7\/k=8\/k=9\/k=10\/k=11\/k=12\/k=13\/k=14\/k=15\/k=16\/k=17\/k=18\/k=19\/k=20:=VW
  refine .inr ?_;rcases e with rfl|rfl|rfl|rfl|rfl|rfl|rfl|rfl|rfl|rfl|rfl|rfl|rfl|rfl|rfl|rfl|rfl|rfl|rfl|rfl<;>exact⟨_,_,_,_,_,_,rfl,rfl,rfl,rfl,rfl,rfl,rfl⟩
def MN(k:Int):(Pf.sig k=none/\∃r,px k=some (r,false))\/∃d ty a b c r,Pf.sig k=some (d,ty,a,b,c)/\px k=some (r,true)/\r.acV=d/\r.o0=ty/\r.c9=((a:Nat):Int)/\r.dV=((b:Nat):Int)/\r.acT=((c:Nat):Int):=by
 by_cases h:k<1\/20<k
 ·refine .inl ⟨L1 h,?_⟩;unfold px;simp only[lN,r5,eW];rw[cK VW,cK VW,cK VW,cK VW,cK VW,cK VW,cK VW,cK VW,cK VW,cK VW,cK VW];exact⟨_,rfl⟩
 ·have e:k=1\/k=2\/k=3\/k=4\/k=5\/k=6\/k=7\/k=8\/k=9\/k=10\/k=11\/k=12\/k=13\/k=14\/k=15\/k=16\/k=17\/k=18\/k=19\/k=20:=VW
  refine .inr ?_;rcases e with rfl|rfl|rfl|rfl|rfl|rfl|rfl|rfl|rfl|rfl|rfl|rfl|rfl|rfl|rfl|rfl|rfl|rfl|rfl|rfl<;>exact⟨_,_,_,_,_,_,rfl,rfl,rfl,rfl,rfl,rfl,rfl⟩
def ji{k i:Int}{s:Ty}{f nf g:Nat}(h:Pf.node k i s f nf g=true){j ty:Bool}{a b c:Nat}(hs:Pf.sig k=some (j,ty,a,b,c)):(f:Int)=a/\(nf:Int)=b/\(g:Int)=c/\0<=i/\(j=false->i=0)/\(ty=true->s.err=0)/\(ty=false->s=.mk 0 []):=by
 unfold Pf.node at h;rw[hs] at h;simp only[ft,oI,r5] at h;obtain⟨⟨⟨⟨⟨h1,o⟩,p⟩,l⟩,m⟩,d⟩:=h;refine⟨VW,VW,VW,l,λn=>m.resolve_left (by simp[n]),λe=>?_,λe=>?_⟩
 ·rw[cO e] at d;simpa using d
 ·rw[cK aa8] at d;exact(Ty.lB s).1 d
def Pf.w(p:Pf):p.ok=true->p.small=true->zU p:=by
 induction p using Pf.ind with
 |h k i s ts C l v=>
  intro u hs;rw[Pf.fV] at u;rw[Pf.CJ] at hs;simp only[ft,j7] at u hs;obtain⟨⟨⟨h1,y⟩,z⟩,A⟩:=u;obtain⟨⟨s1,s2⟩,B⟩:=hs;have q:∀t∈ts,t.err=0:=λt o=>Tm.xw (y t o) (by have:=s1 t o;simpa[PY] using this)
  have r:∀f∈C,f.err=0:=λf o=>by
   have:=s2 f o;simp only[SO,oI] at this;unfold Fm.err;rw[cO (z f o),cK VW]
  have j:∀x∈l,zU x:=λx o=>v x o (A x o) (B x o);clear v y z A s1 s2 B;have D:=WB (k:=k) (λhn=>by unfold Pf.node at h1;rw[hn] at h1;cases h1);rcases D with rfl|rfl|rfl|rfl|rfl|rfl|rfl|rfl|rfl|rfl|rfl|rfl|rfl|rfl|rfl|rfl|rfl|rfl|rfl|rfl
  ·obtain⟨q1,c,d,m,e,n,g⟩:=ji h1 rfl;obtain rfl:=fE.1 q1;obtain rfl:=fE.1 c;obtain rfl:=fE.1 d;obtain rfl:=g rfl;exact .hyp m
  ·obtain⟨q1,c,d,m,e,n,g⟩:=ji h1 rfl;obtain rfl:=fE.1 q1;obtain rfl:=fE.1 c;obtain rfl:=fE.1 d;obtain rfl:=g rfl;exact .N9 m
  ·obtain⟨q1,c,d,m,e,n,g⟩:=ji h1 rfl;obtain rfl:=fE.1 q1;obtain rfl:=fE.1 c;obtain⟨a,b,rfl⟩:=p9 d;obtain rfl:=e rfl;obtain rfl:=g rfl;exact .Z2 (j a aa4) (j b aa4)
  ·obtain⟨q1,c,d,m,e,n,g⟩:=ji h1 rfl;obtain rfl:=fE.1 q1;obtain rfl:=fE.1 c;obtain⟨a,rfl⟩:=iK d;obtain rfl:=e rfl;obtain rfl:=g rfl;exact .and (.inl rfl) (j a aa4)
  ·obtain⟨q1,c,d,m,e,n,g⟩:=ji h1 rfl;obtain rfl:=fE.1 q1;obtain rfl:=fE.1 c;obtain⟨a,rfl⟩:=iK d;obtain rfl:=e rfl;obtain rfl:=g rfl;exact .and (.inr rfl) (j a aa4)
  ·obtain⟨q1,c,d,m,e,n,g⟩:=ji h1 rfl;obtain rfl:=fE.1 q1;obtain⟨F,rfl⟩:=iK c;obtain⟨a,rfl⟩:=iK d;obtain rfl:=e rfl;obtain rfl:=g rfl;exact .Z0 (r F aa4) (j a aa4)
  ·obtain⟨q1,c,d,m,e,n,g⟩:=ji h1 rfl;obtain rfl:=fE.1 q1;obtain rfl:=fE.1 c;obtain⟨a,b,rfl⟩:=p9 d;obtain rfl:=e rfl;obtain rfl:=g rfl;exact .Ze (j a aa4) (j b aa4)
  ·obtain⟨q1,c,d,m,e,n,g⟩:=ji h1 rfl;obtain rfl:=fE.1 q1;obtain rfl:=fE.1 c;obtain⟨a,rfl⟩:=iK d;obtain rfl:=e rfl;exact .all (.inl rfl) (n rfl) (j a aa4)
  ·obtain⟨q1,c,d,m,e,n,g⟩:=ji h1 rfl;obtain⟨t,rfl⟩:=iK q1;obtain rfl:=fE.1 c;obtain⟨a,rfl⟩:=iK d;obtain rfl:=e rfl;obtain rfl:=g rfl;exact .atE (.inl rfl) (q t aa4) (j a aa4)
  ·obtain⟨q1,c,d,m,e,n,g⟩:=ji h1 rfl;obtain⟨t,rfl⟩:=iK q1;obtain⟨F,rfl⟩:=iK c;obtain⟨a,rfl⟩:=iK d;obtain rfl:=e rfl;obtain rfl:=g rfl;exact .ex (.inl rfl) (q t aa4) (r F aa4) (j a aa4)
  ·obtain⟨q1,c,d,m,e,n,g⟩:=ji h1 rfl;obtain rfl:=fE.1 q1;obtain rfl:=fE.1 c;obtain⟨a,b,rfl⟩:=p9 d;obtain rfl:=e rfl;obtain rfl:=g rfl;exact .opn (.inl rfl) (j a aa4) (j b aa4)
  ·obtain⟨q1,c,d,m,e,n,g⟩:=ji h1 rfl;obtain rfl:=fE.1 q1;obtain rfl:=fE.1 c;obtain⟨a,rfl⟩:=iK d;obtain rfl:=e rfl;exact .all (.inr rfl) (n rfl) (j a aa4)
  ·obtain⟨q1,c,d,m,e,n,g⟩:=ji h1 rfl;obtain⟨t,rfl⟩:=iK q1;obtain rfl:=fE.1 c;obtain⟨a,rfl⟩:=iK d;obtain rfl:=e rfl;obtain rfl:=g rfl;exact .atE (.inr rfl) (q t aa4) (j a aa4)
  ·obtain⟨q1,c,d,m,e,n,g⟩:=ji h1 rfl;obtain⟨t,rfl⟩:=iK q1;obtain⟨F,rfl⟩:=iK c;obtain⟨a,rfl⟩:=iK d;obtain rfl:=e rfl;obtain rfl:=g rfl;exact .ex (.inr rfl) (q t aa4) (r F aa4) (j a aa4)
  ·obtain⟨q1,c,d,m,e,n,g⟩:=ji h1 rfl;obtain rfl:=fE.1 q1;obtain rfl:=fE.1 c;obtain⟨a,b,rfl⟩:=p9 d;obtain rfl:=e rfl;obtain rfl:=g rfl;exact .opn (.inr rfl) (j a aa4) (j b aa4)
  ·obtain⟨q1,c,d,m,e,n,g⟩:=ji h1 rfl;obtain⟨t,rfl⟩:=iK q1;obtain⟨F,rfl⟩:=iK c;obtain⟨a,b,rfl⟩:=p9 d;obtain rfl:=e rfl;obtain rfl:=g rfl;exact .ind (.inl rfl) (q t aa4) (r F aa4) (j a aa4) (j b aa4)
  ·obtain⟨q1,c,d,m,e,n,g⟩:=ji h1 rfl;obtain⟨t,rfl⟩:=iK q1;obtain⟨F,rfl⟩:=iK c;obtain⟨a,b,rfl⟩:=p9 d;obtain rfl:=e rfl;obtain rfl:=g rfl;exact .ind (.inr rfl) (q t aa4) (r F aa4) (j a aa4) (j b aa4)
  ·obtain⟨q1,c,d,m,e,n,g⟩:=ji h1 rfl;obtain⟨t,rfl⟩:=iK q1;obtain rfl:=fE.1 c;obtain rfl:=fE.1 d;obtain rfl:=e rfl;obtain rfl:=g rfl;exact .refl (q t aa4)
  ·obtain⟨q1,c,d,m,e,n,g⟩:=ji h1 rfl;obtain rfl:=fE.1 q1;obtain⟨F,rfl⟩:=iK c;obtain⟨a,b,rfl⟩:=p9 d;obtain rfl:=e rfl;obtain rfl:=g rfl;exact .subst (r F aa4) (j a aa4) (j b aa4)
  ·obtain⟨q1,c,d,m,e,n,g⟩:=ji h1 rfl;obtain rfl:=fE.1 q1;obtain rfl:=fE.1 c;obtain⟨a,rfl⟩:=iK d;obtain rfl:=e rfl;obtain rfl:=g rfl;exact .choice (j a aa4)
end Go.fB
