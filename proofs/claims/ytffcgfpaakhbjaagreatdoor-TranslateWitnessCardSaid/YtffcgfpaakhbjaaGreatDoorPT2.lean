/- Part of the proof of TranslateWitness: plain facts. -/
import Derived.Test.YtffcgfpaakhbjaaGreatDoorPT1
set_option linter.all false
namespace Go.dF
open Go
def hR(a:Ty):a.iY a=true:=(Ty.iJ a a).2 rfl
def jV{a b:Ty}(h:a≠b):a.iY b=false:=by grind[Ty.iJ]
def mb{n:Nat}{g:List Ty}:∀(l:List Tm) (i:Nat) (v:List Ty),(∀a∈l,dt n g a=some (a.ty g))->v.length+l.length<=1000->cY (λ(m:Int) (j:Tm)=>(λ(c:List Ty)=>
   b8 (dt n g j) λd f=>
   if(cG f 0) then(
   some (dJ.ret ((Ty.mk 0 []),f)))
   else(ef (dP c [d])<|some (.next (dN c [d])))):Int->Tm->((List Ty))->(Option (dJ ((List Ty)) (Ty×Int)))) l i v=some (match Tm.sl l g with|.inl ts=>.inl (v++ts)|.inr e=>.inr (.z,e))
 |[],i,v,_,_=>by simp[Tm.sl]|a::l,i,v,h,o=>by
  simp only[jK] at o;have p:=h a th;rw[cM,Tm.sl];rw[p]
  by_cases k:(a.ty g).2=0
  ·rw[wI k,oa rfl];simp only[bW];rw[bV gw,dc aae];simp only[b6,bT,cS];rw[mb l (i+1) _ (λb q=>h b (by simp[q])) (by rw[ei];simp;omega),ei];cases Tm.sl l g with
   |inl ts=>simp|inr e=>rfl
  ·rw[nZ k];generalize a.ty g=r at k;obtain⟨t,e⟩:=r;simp only[bW];rw[bX (by simpa[cG] using k)];rfl
def x4(l:List Tm)(g:List Ty):(∃e,e≠0/\Tm.sl l g=.inr e)\/∃ts,Tm.sl l g=.inl ts/\ts.length=l.length/\∀(i:Nat) (a:Tm),l[i]?=some a->∃s,ts[i]?=some s/\a.ty g=(s,0):=by
 induction l with
 |nil=>exact .inr ⟨[],by rw[Tm.sl],rfl,th⟩|cons a l b=>
  rw[Tm.sl]
  grind[oa,nZ]
def MK{f:List Ty->Ty×Int}{e:Int}:sE f (.inr e)=(.z,e):=rfl
def mm{f:List Ty->Ty×Int}{l:List Ty}:sE f (.inl l)=f l:=rfl
def As{a:Tm}{g:List Ty}(b:a.ok=true)(hg:fQ g):(∃e,e≠0/\Tm.sl [a] g=.inr e)\/∃s,Tm.sl [a] g=.inl [s]/\s.err=0:=by
 rcases x4 [a] g with h|⟨ts,c,d,f⟩
 ·grind
 ·obtain⟨s,j,i⟩:=f 0 a rfl
  match ts,d with
  |[x],_=>
   obtain rfl:x=s:=by grind
   exact .inr ⟨x,c,(ov _ a (fC _) b g hg _ i).2⟩
def AB{a b:Tm}{g:List Ty}(d:a.ok=true)(f:b.ok=true)(hg:fQ g):(∃e,e≠0/\Tm.sl [a,b] g=.inr e)\/∃s t,Tm.sl [a,b] g=.inl [s,t]/\s.err=0/\t.err=0:=by
 rcases x4 [a,b] g with h|⟨ts,i,j,c⟩
 ·exact .inl h
 ·obtain⟨s,m,k⟩:=c 0 a rfl;obtain⟨t,n,l⟩:=c 1 b rfl
  match ts,j with
  |[x,y],_=>
   obtain rfl:x=s:=by grind
   obtain rfl:y=t:=by grind
   exact .inr ⟨x,y,i,(ov _ a (fC _) d g hg _ k).2,(ov _ b (fC _) f g hg _ l).2⟩
def zz{a b c:Tm}{g:List Ty}(f:a.ok=true)(i:b.ok=true)(j:c.ok=true)(hg:fQ g):(∃e,e≠0/\Tm.sl [a,b,c] g=.inr e)\/∃s t u,Tm.sl [a,b,c] g=.inl [s,t,u]/\s.err=0/\t.err=0/\u.err=0:=by
 rcases x4 [a,b,c] g with h|⟨ts,k,l,d⟩
 ·exact .inl h
 ·obtain⟨s,q,m⟩:=d 0 a rfl;obtain⟨t,r,n⟩:=d 1 b rfl;obtain⟨u,o,p⟩:=d 2 c rfl
  match ts,l with
  |[x,y,z],_=>
   obtain rfl:x=s:=by grind
   obtain rfl:y=t:=by grind
   obtain rfl:z=u:=by simpa using o
   exact .inr ⟨x,y,z,k,(ov _ a (fC _) f g hg _ m).2,(ov _ b (fC _) i g hg _ n).2,(ov _ c (fC _) j g hg _ p).2⟩
def Cu{t:Ty}(h:t.acJ<=1000000000)(a:t.ok=true):ry t=some (if 64<t.acJ then(.z,4)else(t,0)):=by
 unfold ry;rw[kz h];unfold Ty.err;rw[bX a]
 split
 ·rfl
 ·rfl
section
variable{s x y z:Ty}
def x9:((x.acH=4/\x.acI.getD 0 .z=y)->fa 3 s [x,y]=(x.acI.getD 1 .z,0))/\(¬(x.acH=4/\x.acI.getD 0 .z=y)->fa 3 s [x,y]=(.z,7)):=by
 unfold fa
 grind
def DF:(x=.nat->fa 5 s [x]=(.nat,0))/\(x≠ .nat->fa 5 s [x]=(.z,7)):=by
 unfold fa
 grind
def tH:((x=s/\y=.fn .nat (.fn s s)/\z=.nat)->fa 6 s [x,y,z]=(s,0))/\(¬(x=s/\y=.fn .nat (.fn s s)/\z=.nat)->fa 6 s [x,y,z]=(.z,7)):=by
 unfold fa
 grind
def yd:((x=.nat/\y=.lk)->fa 8 s [x,y]=(.lk,0))/\(¬(x=.nat/\y=.lk)->fa 8 s [x,y]=(.z,7)):=by
 unfold fa
 grind
def tW:((x=s/\y=.fn .nat (.fn .lk (.fn s s))/\z=.lk)->fa 9 s [x,y,z]=(s,0))/\(¬(x=s/\y=.fn .nat (.fn .lk (.fn s s))/\z=.lk)->fa 9 s [x,y,z]=(.z,7)):=by
 unfold fa
 grind
def Jc:fa 10 s [x,y]=if 64<1+x.acJ+y.acJ then(.z,4)else(.pr x y,0):=by
 rfl
def I1:fa 11 s [x]=if x.acH=3 then(x.acI.getD 0 .z,0)else(.z,7):=by
 rfl
def J':fa 12 s [x]=if x.acH=3 then(x.acI.getD 1 .z,0)else(.z,7):=by
 rfl
end
def xV:∀(n:Nat) (t:Tm),t.acJ<=n->t.ok=true->∀g,fQ g->g.length+t.acJ<=1000000->dt n g t=some (t.ty g):=by
 intro n
 induction n with
 |zero=>intro t h;have:=t.cu;omega
 |succ n m=>
  intro t hn L;refine Tm.kV (p:=λt=>t.acJ<=n+1->∀g,fQ g->g.length+t.acJ<=1000000->dt (n+1) g t=some (t.ty g)) ?_ ?_ ?_ ?_ ?_ ?_ ?_ ?_ ?_ ?_ ?_ ?_ ?_ t L hn
  ·intro i _ g hg k;rw[Tm.bY] at k;rw[dt,bX aal,Tm.k5,bX rfl]
   by_cases hi:(i:Int)<(g.length:Int)
   ·rw[bV (by simp only[Tm.dK,dE,fF];omega),bX hi];simp only[Tm.dK,dE];rw[dh (a:=(g.length:Int)) cw cw,dh cw cw]
    have w:g.length-1-i<g.length:=cw
    have:cq g ((g.length:Int)-1-(i:Int))=some g[g.length-1-i]:=by
     unfold cq;rw[bX cw,show((g.length:Int)-1-(i:Int)).toNat=g.length-1-i by omega,lV w]
    rw[this];simp only[bT];have F:=hg _ (AY w);rw[gx (by have:=df F;omega)];simp only[bT,za];rw[OG,lV w];rfl
   ·rw[bX (by simp only[Tm.dK,dE,fF];omega),bV hi];rfl
  ·intro s b hs k hn g hg d;rw[Tm.bY] at hn d;simp only[cn] at hn d;rw[dt,bV th,bX aal,Tm.k5,bV gw,bX rfl,Tm.YW];simp only[Tm.cT,Tm.ck,cD,fM,bT,ei];rw[dc aae,b6,m b cw k (g++[s]) (hg.app hs) aae];have J:=λh=>(ov _ b (fC _) k (g++[s]) (hg.app hs) (b.ty (g++[s])).1 (wI h)).2;generalize b.ty (g++[s])=q at J;obtain⟨r,e⟩:=q;simp only[bW,J7]
   by_cases G:e=0
   ·subst G;have K:r.err=0:=J rfl;have H:=df hs;have M:=df K;rw[bV gw,bV th,f_ cw cw];simp only[bT];rw[Cu (t:=Ty.fn s r) (by rw[Ty.g_];omega) (Ty.ok_two (.inr rfl) (Ty.hB hs).1 (Ty.hB K).1),Ty.g_]
    split<;>rfl
   ·rw[bX (by simpa[cG] using G),bX G];rfl
  ·intro a b j k hn g hg d;rw[Tm.bY] at hn d;simp only[cn] at hn d;rw[dt,bV th,bV th,Tm.k5,bV gw,bV gw];simp only[cc,Tm.ck,ch (l:=[a,b]) th,b6];rw[mb [a,b] 0 [] (by intro x f;simp at f;rcases f with rfl|rfl<;>first|exact m _ cw j g hg cw|exact m _ cw k g hg cw) th];rcases AB j k hg with⟨e,he,h⟩|⟨s,t,h,hs,D⟩
   ·rw[h];rfl
   ·rw[h,mm];simp only[bT,b9,ec,et];rw[bX aal];simp only[mw,cD,dQ,fM,kx,bT]
    by_cases o:s.acH=4
    ·obtain⟨x,y,rfl,f,hy⟩:=Ij hs o;rw[bV (by simp[Ty.fn,cG]),show(Ty.fn x y).acI[0]?=some x from rfl];simp only[bT];rw[fU (by have:=df f;omega)];simp only[bT]
     by_cases A:x=t
     ·subst A;rw[hR,bV gw,show(Ty.fn x y).acI[1]?=some y from rfl,(x9 (x:=.fn x y) (y:=x)).1 ⟨rfl,rfl⟩];rfl
     ·rw[jV A,bX gw,(x9 (x:=.fn x y) (y:=t)).2 (λh=>A h.2)];rfl
    ·rw[bX (by simpa[cG] using o),bX trivial,x9.2 (λh=>o h.1)];rfl
  ·intro hn g hg d;rw[Tm.k5,bV gw,bV gw,Tm.sl];rfl
  ·intro a j hn g hg d;rw[Tm.bY] at hn d;simp only[cn] at hn d;rw[dt,bV th,bV th,Tm.k5,bV gw,bV gw];simp only[cc,Tm.ck,ch (l:=[a]) th,b6];rw[mb [a] 0 [] (by intro x f;simp at f;subst f;exact m _ cw j g hg cw) th];rcases As j hg with⟨e,he,h⟩|⟨s,h,hs⟩
   ·rw[h];rfl
   ·rw[h,mm];simp only[bT,b9,ec,et];rw[bV th,bV th,bX aal];simp only[mw,cD,fM,bT];rw[fU (by have:=df hs;omega)];simp only[bT]
    by_cases B:s=.nat
    ·subst B;rw[hR,bX rfl,DF.1 rfl]
    ·rw[jV B,bV gw,DF.2 B];rfl
  ·intro s a b c hs j k E hn g hg d;rw[Tm.bY] at hn d;simp only[cn] at hn d;rw[dt,bV th,bV th,Tm.k5,bV gw,bV gw];simp only[cc,Tm.ck,ch (l:=[a,b,c]) th,b6];rw[mb [a,b,c] 0 [] (by intro x f;simp at f;rcases f with rfl|rfl|rfl<;>first|exact m _ cw j g hg cw|exact m _ cw k g hg cw|exact m _ cw E g hg cw) th];rcases zz j k E hg with⟨e,he,h⟩|⟨x,y,z,h,f,hy,I⟩
   ·rw[h];rfl
   ·have H:=df hs;rw[h,mm];simp only[bT,b9,ec,et];rw[bV th,bV th,bV th,bX aal];simp only[mw,cD,dQ,gz,fM,kx,bT,Tm.cT];rw[fU (by have:=df f;omega)];simp only[bT]
    by_cases u:x=s
    ·subst u;rw[hR,bX rfl,f_ cw cw];simp only[bT];rw[f_ (by rw[Ty.gh];omega) (by rw[Ty.g_];omega)];simp only[bT];rw[fU (by have:=df hy;omega)];simp only[bT]
     by_cases v:y=.fn .nat (.fn x x)
     ·subst v;rw[hR,bX rfl,fU (by have:=df I;omega)];simp only[bT]
      by_cases C:z=.nat
      ·subst C;rw[hR,bV gw,gx cw,tH.1 ⟨rfl,rfl,rfl⟩];rfl
      ·rw[jV C,bX gw,tH.2 (λh=>C h.2.2)];rfl
     ·rw[jV v,bV gw,bX trivial,tH.2 (λh=>v h.2.1)];rfl
    ·rw[jV u,bV gw,bX trivial,tH.2 (λh=>u h.1)];rfl
  ·intro hn g hg d;rw[Tm.k5,bV gw,bV gw,Tm.sl];rfl
  ·intro a b j k hn g hg d;rw[Tm.bY] at hn d;simp only[cn] at hn d;rw[dt,bV th,bV th,Tm.k5,bV gw,bV gw];simp only[cc,Tm.ck,ch (l:=[a,b]) th,b6];rw[mb [a,b] 0 [] (by intro x f;simp at f;rcases f with rfl|rfl<;>first|exact m _ cw j g hg cw|exact m _ cw k g hg cw) th];rcases AB j k hg with⟨e,he,h⟩|⟨s,t,h,hs,D⟩
   ·rw[h];rfl
   ·rw[h,mm];simp only[bT,b9,ec,et];rw[bV th,bV th,bV th,bV th,bV th,bX aal];simp only[mw,cD,dQ,fM,kx,bT];rw[fU (by have:=df hs;omega)];simp only[bT]
    by_cases u:s=.nat
    ·subst u;rw[hR,bX rfl,fU (by have:=df D;omega)];simp only[bT]
     by_cases v:t=.lk
     ·subst v;rw[hR,bV gw,yd.1 ⟨rfl,rfl⟩]
     ·rw[jV v,bX gw,yd.2 (λh=>v h.2)];rfl
    ·rw[jV u,bV gw,bX trivial,yd.2 (λh=>u h.1)];rfl
  ·intro s a b c hs j k E hn g hg d;rw[Tm.bY] at hn d;simp only[cn] at hn d;rw[dt,bV th,bV th,Tm.k5,bV gw,bV gw];simp only[cc,Tm.ck,ch (l:=[a,b,c]) th,b6];rw[mb [a,b,c] 0 [] (by intro x f;simp at f;rcases f with rfl|rfl|rfl<;>first|exact m _ cw j g hg cw|exact m _ cw k g hg cw|exact m _ cw E g hg cw) th];rcases zz j k E hg with⟨e,he,h⟩|⟨x,y,z,h,f,hy,I⟩
   ·rw[h];rfl
   ·have H:=df hs;rw[h,mm];simp only[bT,b9,ec,et];rw[bV th,bV th,bV th,bV th,bV th,bV th,bX aal];simp only[mw,cD,dQ,gz,fM,kx,bT,Tm.cT];rw[fU (by have:=df f;omega)];simp only[bT]
    by_cases u:x=s
    ·subst u;rw[hR,bX rfl,f_ cw cw];simp only[bT];rw[f_ (by rw[Ty.mR];omega) (by rw[Ty.g_];omega)];simp only[bT];rw[f_ (by rw[Ty.gh];omega) (by rw[Ty.g_,Ty.g_,Ty.mR];omega)];simp only[bT];rw[fU (by have:=df hy;omega)];simp only[bT]
     by_cases v:y=.fn .nat (.fn .lk (.fn x x))
     ·subst v;rw[hR,bX rfl,fU (by have:=df I;omega)];simp only[bT]
      by_cases C:z=.lk
      ·subst C;rw[hR,bV gw,gx cw,tW.1 ⟨rfl,rfl,rfl⟩];rfl
      ·rw[jV C,bX gw,tW.2 (λh=>C h.2.2)];rfl
     ·rw[jV v,bV gw,bX trivial,tW.2 (λh=>v h.2.1)];rfl
    ·rw[jV u,bV gw,bX trivial,tW.2 (λh=>u h.1)];rfl
  ·intro a b j k hn g hg d;rw[Tm.bY] at hn d;simp only[cn] at hn d;rw[dt,bV th,bV th,Tm.k5,bV gw,bV gw];simp only[cc,Tm.ck,ch (l:=[a,b]) th,b6];rw[mb [a,b] 0 [] (by intro x f;simp at f;rcases f with rfl|rfl<;>first|exact m _ cw j g hg cw|exact m _ cw k g hg cw) th];rcases AB j k hg with⟨e,he,h⟩|⟨s,t,h,hs,D⟩
   ·rw[h];rfl
   ·have H:=df hs;have M:=df D;rw[h,mm];simp only[bT,b9,ec,et];rw[bV th,bV th,bV th,bV th,bV th,bV th,bV th,bX aal];simp only[mw,cD,dQ,fM,kx,bT];rw[wm cw cw];simp only[bT];rw[Cu (t:=Ty.pr s t) (by rw[Ty.sx];omega) (Ty.ok_two (.inl rfl) (Ty.hB hs).1 (Ty.hB D).1),Ty.sx];rw[Jc]
    split<;>rfl
  ·intro a j hn g hg d;rw[Tm.bY] at hn d;simp only[cn] at hn d;rw[dt,bV th,bV th,Tm.k5,bV gw,bV gw];simp only[cc,Tm.ck,ch (l:=[a]) th,b6];rw[mb [a] 0 [] (by intro x f;simp at f;subst f;exact m _ cw j g hg cw) th];rcases As j hg with⟨e,he,h⟩|⟨s,h,hs⟩
   ·rw[h];rfl
   ·rw[h,mm];simp only[bT,b9,ec,et];rw[bV th,bV th,bV th,bV th,bV th,bV th,bV th,bV th,bX aal];simp only[mw,cD,fM,bT];rw[I1]
    by_cases o:s.acH=3
    ·obtain⟨x,y,rfl,f,hy⟩:=yh hs o;rw[bV (by simp[Ty.pr,cG]),bX aal,bX (show(Ty.pr x y).acH=3 from rfl)];rfl
    ·rw[bX (by simpa[cG] using o),bV o];rfl
  ·intro a j hn g hg d;rw[Tm.bY] at hn d;simp only[cn] at hn d;rw[dt,bV th,bV th,Tm.k5,bV gw,bV gw];simp only[cc,Tm.ck,ch (l:=[a]) th,b6];rw[mb [a] 0 [] (by intro x f;simp at f;subst f;exact m _ cw j g hg cw) th];rcases As j hg with⟨e,he,h⟩|⟨s,h,hs⟩
   ·rw[h];rfl
   ·rw[h,mm];simp only[bT,b9,ec,et];rw[bV th,bV th,bV th,bV th,bV th,bV th,bV th,bV th,bX aal];simp only[mw,cD,fM,bT];rw[J']
    by_cases o:s.acH=3
    ·obtain⟨x,y,rfl,f,hy⟩:=yh hs o;rw[bV (by simp[Ty.pr,cG]),bV th,bX (show(Ty.pr x y).acH=3 from rfl)];rfl
    ·rw[bX (by simpa[cG] using o),bV o];rfl
  ·intro hn g hg d;rw[Tm.k5,bV gw,bV gw,Tm.sl];rfl
end Go.dF
namespace Go.dF
open Go
def F7:eu=dr:=by
 funext n
 induction n with
 |zero=>rfl|succ n c=>
  funext a b
  rw[eu,dr,c]
def nR{a b:Ty}(h:a.acJ<=1000000000):eu FU a b=some (a.iY b):=by rw[F7];exact fU h
def qw(t:Ty):cj:=⟨t,(t.acJ:Int)⟩
def Ol:cj:=⟨.mk 0 [],0⟩
def Gg(r:Ty×Int):cj×Int:=if r.2=0 then(qw r.1,0)else(Ol,r.2)
@[simp] theorem nA(t:Ty):Gg (t,0)=(qw t,0):=bX rfl
def jO{t:Ty}{e:Int}(h:e≠0):Gg (t,e)=(Ol,e):=bV h
@[simp] theorem sj(t:Ty):(qw t).b7=t:=by rfl
@[simp] theorem Hl(t:Ty):(qw t).acJ=(t.acJ:Int):=by rfl
@[simp] theorem Xi:Ol.b7=.mk 0 []:=by rfl
theorem jj{t:Ty}(h:t.err=0):mN t=some (qw t):=by
 unfold mN;rw[jJ (by have:=df h;omega),bX h];rfl
def xK(k:Int){a b:Ty}(c:a.acJ<=1000000)(d:b.acJ<=1000000):tY k (qw a) (qw b)=some (if 64<1+a.acJ+b.acJ then(Ol,4)else(qw (.mk k [a,b]),0)):=by
 unfold tY;simp only[Hl,sj];rw[cX (a:=1) cw cw,cX cw cw]
 by_cases h:64<1+a.acJ+b.acJ
 ·rw[bX (by simp only[ep];omega),bX h];rfl
 ·rw[bV (by simp only[ep];omega),bV h];unfold qw;rw[Ty.ym]
  congr 3
theorem pL{a b:Ty}(c:a.acJ<=1000000):kU (qw a) (qw b)=some (a.iY b):=by
 unfold kU;simp only[cc,Hl,sj]
 by_cases h:(a.acJ:Int)=(b.acJ:Int)
 ·rw[bX (by simpa[cr] using h),nR cw];rfl
 ·rw[bV (by simpa[cr] using h),jV (by rintro rfl;exact h rfl)]
def pK{t x:Ty}{i:Int}(h:cq t.acI i=some x)(a:x.err=0):jH (qw t) i=some (qw x):=by
 unfold jH;simp only[sj,h,bT,jj a]
def tL:kS=some .nat:=rfl
def Hx:Bv=some .lk:=rfl
def QX{l:List Ty}(d:l.length<=1000):∀(i m:Nat) (k:Int) (as:List Ty),i<=l.length->i<m->mJ ((Tr λ(a:Int) (v49:Int) (b:List Ty)=>
   if(qf a 0) then(
   bU (cq l a) λc=>
   some (.next ((di .i64 a 1),4,[c,(Ty.mk v49 b)])))
   else(some (.Fy (a,v49,b)))):(Int×Int×(List Ty))->(Option (dJ (Int×Int×(List Ty)) (Ty)))) m ((i:Int)-1,k,as)=some (.inl (-1,((l.take i).foldr Ty.fn (.mk k as)).acH,((l.take i).foldr Ty.fn (.mk k as)).acI))
 |0,m+1,k,as,_,_=>by
  rw[lv];simp only[Tr];rw[bV (by rw[fF];omega)];rfl
 |i+1,m+1,k,as,hi,hm=>by
  rw[lv];simp only[Tr];rw[bX (by rw[fF];omega),show((i+1:Nat):Int)-1=(i:Int) by omega,gu,lV cw];simp only[bT,cS];rw[dh cw cw];have h:=QX d i m 4 [l[i],.mk k as] cw cw;rw[h,Wx,lV cw];simp only[YO,Y8,List.foldr_cons,List.foldr_nil];rfl
def xk(t:Ty)(l:List Ty)(a:l.length<=1000):oz t l=some (l.foldr Ty.fn t):=by
 unfold oz;simp only[cc];rw[dE,dh cw cw];have h:=QX a l.length FU t.acH t.acI (fC _) (Ul cw);rw[h,bT];rw[List.take_length]
 have e:Ty.mk t.acH t.acI=t:=by cases t;rfl
 rw[e];generalize List.foldr Ty.fn t l=r;cases r;rfl
def O4(a b t:Ty):oz t [a,b]=some (.fn a (.fn b t)):=xk t [a,b] th
def OZ(a b c t:Ty):oz t [a,b,c]=some (.fn a (.fn b (.fn c t))):=xk t [a,b,c] th
def OL(a t:Ty):oz t [a]=some (.fn a t):=xk t [a] th
def qF:List Ty->cj×cj×cj
 |[]=>(Ol,Ol,Ol)|[a]=>(qw a,Ol,Ol)|[a,b]=>(qw a,qw b,Ol)|a::b::c::_=>(qw a,qw b,qw c)
def CA(x:cj)(k:Int):iM x k=some (cr x.b7.acH k):=rfl
def CF(t:Ty)(k:Int):cr (qw t).b7.acH k=decide (t.acH=k):=by
 rw[sj];exact r6 _ _
def CL(s:Ty)(l:List Tm)(i:Int):rj (.mk 6 i s l)=some (.fn .nat (.fn s s)):=by
 unfold rj;rw[bV th];simp only[tL,bT];rw[O4];rfl
def Bf(s:Ty)(l:List Tm)(i:Int):rj (.mk 9 i s l)=some (.fn .nat (.fn .lk (.fn s s))):=by
 unfold rj;rw[bX th];simp only[tL,Hx,bT];rw[OZ];rfl
section
variable{s x y z:Ty} {i:Int} {l:List Tm}
def QL(f:x.err=0)(hy:y.err=0):ek (.mk 3 i s l) (qF [x,y])=some (Gg (fa 3 s [x,y])):=by
 unfold ek;rw[show jn (Tm.mk 3 i s l).acH=some [] from rfl];simp only[bT];rw[bV th,bX aal];simp only[cc,qF,CA,bT,CF]
 by_cases d:x.acH=4
 ·obtain⟨a,b,rfl,e,g⟩:=Ij f d;rw[bX aal,pK (t:=.fn a b) (x:=a) rfl e];simp only[bT];rw[pL (by have:=df e;omega)];simp only[bT]
  by_cases c:a=y
  ·subst c;rw[hR,bV th,pK (t:=.fn a b) (x:=b) rfl g,(x9 (x:=.fn a b) (y:=a)).1 ⟨rfl,rfl⟩];simp only[bT];rw[show(Ty.fn a b).acI.getD 1 .z=b from rfl,nA]
  ·rw[jV c,bX th,(x9 (x:=.fn a b) (y:=y)).2 (λh=>c h.2),jO gw];rfl
 ·rw[bV (by simpa using d),bX trivial,x9.2 (λh=>d h.1),jO gw];rfl
def Oz(a:x.err=0)(hy:y.err=0):ek (.mk 10 i s l) (qF [x,y])=some (Gg (fa 10 s [x,y])):=by
 unfold ek;rw[show jn (Tm.mk 10 i s l).acH=some [] from rfl];simp only[bT];rw[bV th,bV th,bV th,bX aal];simp only[qF];rw[xK 3 (by have:=df a;omega) (by have:=df hy;omega),Jc]
 split
 ·simp only[bW];rw[jO gw]
 ·simp only[bW];rw[nA];rfl
def Qw(d:x.err=0):ek (.mk 11 i s l) (qF [x])=some (Gg (fa 11 s [x])):=by
 unfold ek;rw[show jn (Tm.mk 11 i s l).acH=some [] from rfl];simp only[bT];rw[bV th,bV th,bV th,bV th];simp only[qF,CA,bT,CF];rw[I1]
 by_cases c:x.acH=3
 ·obtain⟨a,b,rfl,e,f⟩:=yh d c;rw[bX aal,bX aal,pK (t:=.pr a b) (x:=a) rfl e,bX (show(Ty.pr a b).acH=3 from rfl)];simp only[bT];rw[show(Ty.pr a b).acI.getD 0 .z=a from rfl,nA]
 ·rw[bV (by simpa using c),bV c,jO gw];rfl
def PH(d:x.err=0):ek (.mk 12 i s l) (qF [x])=some (Gg (fa 12 s [x])):=by
 unfold ek;rw[show jn (Tm.mk 12 i s l).acH=some [] from rfl];simp only[bT];rw[bV th,bV th,bV th,bV th];simp only[qF,CA,bT,CF];rw[J']
 by_cases c:x.acH=3
 ·obtain⟨a,b,rfl,f,e⟩:=yh d c;rw[bX aal,bV th,pK (t:=.pr a b) (x:=b) rfl e,bX (show(Ty.pr a b).acH=3 from rfl)];simp only[bT];rw[show(Ty.pr a b).acI.getD 1 .z=b from rfl,nA]
 ·rw[bV (by simpa using c),bV c,jO gw];rfl
end
end Go.dF
namespace Go.dF
open Go
section
variable{s x y z:Ty} {i:Int} {l:List Tm}
def xZ{k t:Int}(a:jn k=some [t])(b:Ty.err (.mk t [])=0):ek (.mk k i s l) (qF [])=some (qw (.mk t []),0):=by
 unfold ek;rw[show(Tm.mk k i s l).acH=k from rfl,a,bT,bX (show m8 (cE [t]) 0=true by rfl),show HE [t] 1 (cE [t])=some ([]:List Int)from rfl];simp only[bT,ch (l:=([]:List Int)) th,b6,cc,k9,b9,cD,fM];rw[jj b];rfl
def O_:ek (.mk 4 i s l) (qF [])=some (Gg (fa 4 s [])):=xZ rfl Ty.fO
def Ql:ek (.mk 7 i s l) (qF [])=some (Gg (fa 7 s [])):=xZ rfl Ty.m7
def OY:ek (.mk 13 i s l) (qF [])=some (Gg (fa 13 s [])):=xZ rfl Ty.Ei
def OM(b:x.err=0):ek (.mk 5 i s l) (qF [x])=some (Gg (fa 5 s [x])):=by
 unfold ek;rw[show jn (Tm.mk 5 i s l).acH=some [1,1] from rfl,bT,bX (show m8 (cE ([1,1]:List Int)) 0=true by rfl),show HE ([1,1]:List Int) 1 (cE ([1,1]:List Int))=some [1] from rfl];simp only[bT,ch (l:=([1]:List Int)) th,b6,cc,qF];rw[cM,bX aal];simp only[CA,bT,CF]
 by_cases a:x.acH=1
 ·have hn:=(s8 b).1 a;subst hn;rw[r9 aal,bV gw];simp only[bT,cS,k9,b9,cD,fM];rw[show mN (Ty.mk 1 [])=some (qw .nat)from jj Ty.fO,DF.1 rfl,nA];rfl
 ·rw[AN a,bX gw,DF.2 (λh=>a ((s8 b).2 h)),jO gw];rfl
def OT(c:x.err=0)(hy:y.err=0):ek (.mk 8 i s l) (qF [x,y])=some (Gg (fa 8 s [x,y])):=by
 unfold ek;rw[show jn (Tm.mk 8 i s l).acH=some [2,1,2] from rfl,bT,bX (show m8 (cE ([2,1,2]:List Int)) 0=true by rfl),show HE ([2,1,2]:List Int) 1 (cE ([2,1,2]:List Int))=some [1,2] from rfl];simp only[bT,ch (l:=([1,2]:List Int)) th,b6,cc,qF];rw[cM,bX aal];simp only[CA,bT,CF]
 by_cases b:x.acH=1
 ·have hn:=(s8 c).1 b;subst hn;rw[r9 aal,bV gw];simp only[bT,cS];rw[cM,bV gw,bX aal]
  by_cases a:y.acH=2
  ·have hn:=(z' hy).1 a;subst hn;rw[r9 aal,bV gw];simp only[bT,cS,k9,b9,cD,fM];rw[show mN (Ty.mk 2 [])=some (qw .lk)from jj Ty.m7,yd.1 ⟨rfl,rfl⟩,nA];rfl
  ·rw[AN a,bX gw,yd.2 (λh=>a ((z' hy).2 h.2)),jO gw];rfl
 ·rw[AN b,bX gw,yd.2 (λh=>b ((s8 c).2 h.1)),jO gw];rfl
def QQ(hs:s.err=0)(d:x.err=0)(hy:y.err=0)(e:z.err=0):ek (.mk 6 i s l) (qF [x,y,z])=some (Gg (fa 6 s [x,y,z])):=by
 unfold ek;rw[show jn (Tm.mk 6 i s l).acH=some [] from rfl];simp only[bT];rw[bV gw,bV th,bX aal];simp only[cc,qF,Tm.cT,jj hs,bT];rw[pL (by have:=df d;omega)];simp only[bT]
 by_cases a:x=s
 ·subst a;rw[hR,bX rfl,CL];simp only[bT,sj];rw[nR (by have:=df hy;omega)];simp only[bT]
  by_cases b:y=.fn .nat (.fn x x)
  ·subst b;rw[hR,bX rfl];simp only[CA,bT];rw[show dq (cr (Tm.mk 6 i x l).acH 9) (2:Int) 1=1 from rfl];simp only[CF]
   by_cases c:z=.nat
   ·subst c;rw[r9 aal,bV gw,tH.1 ⟨rfl,rfl,rfl⟩,nA]
   ·rw[AN (λh=>c ((s8 e).1 h)),bX gw,tH.2 (λh=>c h.2.2),jO gw];rfl
  ·rw[jV b,bV gw,bX trivial,tH.2 (λh=>b h.2.1),jO gw];rfl
 ·rw[jV a,bV gw,bX trivial,tH.2 (λh=>a h.1),jO gw];rfl
def ON(hs:s.err=0)(d:x.err=0)(hy:y.err=0)(e:z.err=0):ek (.mk 9 i s l) (qF [x,y,z])=some (Gg (fa 9 s [x,y,z])):=by
 unfold ek;rw[show jn (Tm.mk 9 i s l).acH=some [] from rfl];simp only[bT];rw[bV gw,bV th,bX aal];simp only[cc,qF,Tm.cT,jj hs,bT];rw[pL (by have:=df d;omega)];simp only[bT]
 by_cases a:x=s
 ·subst a;rw[hR,bX rfl,Bf];simp only[bT,sj];rw[nR (by have:=df hy;omega)];simp only[bT]
  by_cases b:y=.fn .nat (.fn .lk (.fn x x))
  ·subst b;rw[hR,bX rfl];simp only[CA,bT];rw[show dq (cr (Tm.mk 9 i x l).acH 9) (2:Int) 1=2 from rfl];simp only[CF]
   by_cases c:z=.lk
   ·subst c;rw[r9 aal,bV gw,tW.1 ⟨rfl,rfl,rfl⟩,nA]
   ·rw[AN (λh=>c ((z' e).1 h)),bX gw,tW.2 (λh=>c h.2.2),jO gw];rfl
  ·rw[jV b,bV gw,bX trivial,tW.2 (λh=>b h.2.1),jO gw];rfl
 ·rw[jV a,bV gw,bX trivial,tW.2 (λh=>a h.1),jO gw];rfl
end
def TT(p:cj×cj×cj):Int×(List Ty)×Int×Int×(List Ty)×Int×Int×(List Ty)×Int:=
 (p.1.b7.acH,p.1.b7.acI,p.1.acJ,p.2.1.b7.acH,p.2.1.b7.acI,p.2.1.acJ,p.2.2.b7.acH,p.2.2.b7.acI,p.2.2.acJ)
def B5{n:Nat}{g:List Ty}:∀(l:List Tm) (d:List Ty),d.length+l.length<=3->(∀a∈l,cO n (g.map qw) a=some (Gg (a.ty g)))->cY (λ(f:Int) (x:Tm)=>(XI λ(i:Int) (j:List Ty) (v218:Int) (k:Int) (m:List Ty) (o:Int) (v222:Int) (p:List Ty) (q:Int)=>
   b8 (cO n (g.map qw) x) λc s=>
   if(cG s 0) then(
   some (.ret ((cj.mk (Ty.mk 0 []) 0),s)))
   else(if(cr f 0) then(
   some (.next (c.b7.acH,c.b7.acI,c.acJ,k,m,o,v222,p,q)))
   else(if(cr f 1) then(
   some (.next (i,j,v218,c.b7.acH,c.b7.acI,c.acJ,v222,p,q)))
   else(ef (cr f 2)<|some (.next (i,j,v218,k,m,o,c.b7.acH,c.b7.acI,c.acJ)))))):Int->Tm->(Int×(List Ty)×Int×Int×(List Ty)×Int×Int×(List Ty)×Int)->(Option (dJ (Int×(List Ty)×Int×Int×(List Ty)×Int×Int×(List Ty)×Int) (cj×Int)))) l d.length (TT (qF d))=some (match Tm.sl l g with|.inl ts=>.inl (TT (qF (d++ts)))|.inr e=>.inr (Ol,e))
 |[],d,_,_=>by simp[Tm.sl]|a::l,d,y,h=>by
  simp only[jK] at y;rw[cM,Tm.sl];have B:=h a th;simp only[TT,XI];rw[B]
  by_cases w:(a.ty g).2=0
  ·rw[wI w,oa rfl,nA,bW,bV gw];generalize (a.ty g).1=t
   have go:∀A:List Ty,A=d++[t]->(some (dJ.next (TT (qF A))):Option (dJ (Int×(List Ty)×Int×Int×(List Ty)×Int×Int×(List Ty)×Int) (cj×Int)))=some (dJ.next (TT (qF (d++[t])))):=λA e=>by rw[e]
   have z:=B5 l (d++[t]) aae (λb C=>h b (by simp[C]));rw[nd,jK,uo] at z
   have fin:(some (match Tm.sl l g with|.inl ts=>.inl (TT (qF (d++[t]++ts)))|.inr e=>.inr (Ol,e)):Option ((Int×(List Ty)×Int×Int×(List Ty)×Int×Int×(List Ty)×Int)⊕(cj×Int)))=some (match(match Tm.sl l g with|.inl ts=>Sum.inl (t::ts)|.inr e=>Sum.inr e:List Ty⊕Int)with|.inl ts=>.inl (TT (qF (d++ts)))|.inr e=>.inr (Ol,e)):=by
    cases Tm.sl l g with
    |inl ts=>simp|inr e=>rfl
   match d,y with
   |[],_=>
    rw[bX aal];exact z.trans fin
   |[u],_=>
    rw[bV th,bX aal];exact z.trans fin
   |[u,v],_=>
    rw[bV th,bV th,show cr (([u,v].length:Nat):Int) 2=true from rfl,b6];exact z.trans fin
   |_::_::_::_,y=>simp at y;omega
  ·rw[nZ w];generalize a.ty g=r at w;obtain⟨t,e⟩:=r;simp only at w;rw[jO w,bW,bX (by simpa[cG] using w)];rfl
def SW(p:cj×cj×cj):((cj.mk (Ty.mk p.1.b7.acH p.1.b7.acI) p.1.acJ),(cj.mk (Ty.mk p.2.1.b7.acH p.2.1.b7.acI) p.2.1.acJ),(cj.mk (Ty.mk p.2.2.b7.acH p.2.2.b7.acI) p.2.2.acJ))=p:=by
 have e:∀t:Ty,Ty.mk t.acH t.acI=t:=λt=>by cases t;rfl
 obtain⟨⟨a,b⟩,⟨c,d⟩,⟨g,f⟩⟩:=p;simp only[e]
def ju{n:Nat}{g:List Ty}{k i:Int}{s:Ty}{l:List Tm}(m:k≠1)(q:k≠2)(r:l.length<=3)(h:∀a∈l,cO n (g.map qw) a=some (Gg (a.ty g)))
  (hn:∀ts,Tm.sl l g=.inl ts->ek (.mk k i s l) (qF ts)=some (Gg (fa k s ts))):cO (n+1) (g.map qw) (.mk k i s l)=some (Gg ((Tm.mk k i s l).ty g)):=by
 rw[cO,bV (by simpa[cr] using m),bV (by simpa[cr] using q),Tm.k5,bV m,bV q];simp only[cc,Tm.ck];rw[ch cw,b6];have f:=B5 l [] (by simpa using r) h;refine(congrArg (λo=>bU o _) f).trans ?_;simp only[bT];cases j:Tm.sl l g with
 |inr e=>
  rw[MK]
  have he:e≠0:=by
   rcases x4 l g with⟨t,d,c⟩|⟨ts,d,_⟩
   ·rw[j] at c;cases c;exact d
   ·rw[j] at d;cases d
  rw[jO he];rfl
 |inl ts=>
  simp only[mw,b9,mm,TT,XI];rw[SW,hn ts j,show∀p:cj×Int,(b8 (some p) λa b=>some (a,b))=some p fromλ_=>rfl]
end Go.dF
namespace Go.dF
open Go
def xz(g:List Ty)(s:Ty):g.map qw++[qw s]=(g++[s]).map qw:=th
def BX:∀(n:Nat) (t:Tm),t.acJ<=n->t.ok=true->∀g,fQ g->g.length+t.acJ<=1000000->cO n (g.map qw) t=some (Gg (t.ty g)):=by
 intro n
 induction n with
 |zero=>intro t h;have:=t.cu;omega
 |succ n l=>
  intro t hn B
  have one:∀{a:Tm} {g:List Ty} {ts:List Ty},a.ok=true->fQ g->Tm.sl [a] g=.inl ts->∃x,ts=[x]/\x.err=0:=by
   intro a g ts j hg h;rcases As j hg with⟨e,_,o⟩|⟨x,o,f⟩<;>rw[h] at o<;>cases o;exact⟨x,rfl,f⟩
  have two:∀{a b:Tm} {g:List Ty} {ts:List Ty},a.ok=true->b.ok=true->fQ g->Tm.sl [a,b] g=.inl ts->∃x y,ts=[x,y]/\x.err=0/\y.err=0:=by
   intro a b g ts j k hg h;rcases AB j k hg with⟨e,_,o⟩|⟨x,y,o,f,hy⟩<;>rw[h] at o<;>cases o;exact⟨x,y,rfl,f,hy⟩
  have three:∀{a b c:Tm} {g:List Ty} {ts:List Ty},a.ok=true->b.ok=true->c.ok=true->fQ g->Tm.sl [a,b,c] g=.inl ts->∃x y z,ts=[x,y,z]/\x.err=0/\y.err=0/\z.err=0:=by
   intro a b c g ts j k m hg h;rcases zz j k m hg with⟨e,_,o⟩|⟨x,y,z,o,f,hy,u⟩<;>rw[h] at o<;>cases o;exact⟨x,y,z,rfl,f,hy,u⟩
  refine Tm.kV (p:=λt=>t.acJ<=n+1->∀g,fQ g->g.length+t.acJ<=1000000->cO (n+1) (g.map qw) t=some (Gg (t.ty g))) ?_ ?_ ?_ ?_ ?_ ?_ ?_ ?_ ?_ ?_ ?_ ?_ ?_ t B hn
  ·intro i _ g hg k;rw[Tm.bY] at k;rw[cO,bX aal,Tm.k5,bX rfl];simp only[Tm.dK,dE,GD]
   by_cases hi:(i:Int)<(g.length:Int)
   ·rw[bV (by simp only[fF];omega),bX hi];rw[dh (a:=(g.length:Int)) cw cw,dh cw cw]
    have v:g.length-1-i<g.length:=cw
    have:cq (g.map qw) ((g.length:Int)-1-(i:Int))=some (qw g[g.length-1-i]):=by
     unfold cq;rw[bX cw,show((g.length:Int)-1-(i:Int)).toNat=g.length-1-i by omega,rS,lV v];rfl
    rw[this];simp only[bT,za];rw[OG,lV v];exact congrArg some (nA _).symm
   ·rw[bX (by simp only[fF];omega),bV hi,jO gw];rfl
  ·intro s b hs k hn g hg d;rw[Tm.bY] at hn d;simp only[cn] at hn d;rw[cO,bV th,bX aal,Tm.k5,bV gw,bX rfl,Tm.YW];simp only[Tm.cT,Tm.ck,jj hs,cD,fM,bT,ei];rw[dc aae,b6,xz,l b cw k (g++[s]) (hg.app hs) aae];have A:=λh=>(ov _ b (fC _) k (g++[s]) (hg.app hs) (b.ty (g++[s])).1 (wI h)).2;generalize b.ty (g++[s])=q at A;obtain⟨r,e⟩:=q;simp only[J7]
   by_cases w:e=0
   ·subst w;have C:r.err=0:=A rfl;have D:=df hs;have E:=df C;rw[nA,bW,bV gw,bV th,xK 4 cw cw]
    by_cases m:64<1+s.acJ+r.acJ
    ·rw[bX m,bX m,jO gw];rfl
    ·rw[bV m,bV m,nA];rfl
   ·rw[jO w,bW,bX (by simpa[cG] using w),bX w,jO w];rfl
  ·intro a b j k hn g hg d;rw[Tm.bY] at hn d;simp only[cn] at hn d;refine ju gw gw th (by intro x f;simp at f;rcases f with rfl|rfl<;>first|exact l _ cw j g hg cw|exact l _ cw k g hg cw) (λts h=>?_);obtain⟨x,y,rfl,f,hy⟩:=two j k hg h;exact QL f hy
  ·intro hn g hg d;exact ju gw gw th th (λts h=>by rw[Tm.sl] at h;cases h;exact O_)
  ·intro a j hn g hg d;rw[Tm.bY] at hn d;simp only[cn] at hn d;refine ju gw gw th (by intro x f;simp at f;subst f;exact l _ cw j g hg cw) (λts h=>?_);obtain⟨x,rfl,f⟩:=one j hg h;exact OM f
  ·intro s a b c hs j k m hn g hg d;rw[Tm.bY] at hn d;simp only[cn] at hn d;refine ju gw gw th (by intro x f;simp at f;rcases f with rfl|rfl|rfl<;>first|exact l _ cw j g hg cw|exact l _ cw k g hg cw|exact l _ cw m g hg cw) (λts h=>?_);obtain⟨x,y,z,rfl,f,hy,u⟩:=three j k m hg h;exact QQ hs f hy u
  ·intro hn g hg d;exact ju gw gw th th (λts h=>by rw[Tm.sl] at h;cases h;exact Ql)
  ·intro a b j k hn g hg d;rw[Tm.bY] at hn d;simp only[cn] at hn d;refine ju gw gw th (by intro x f;simp at f;rcases f with rfl|rfl<;>first|exact l _ cw j g hg cw|exact l _ cw k g hg cw) (λts h=>?_);obtain⟨x,y,rfl,f,hy⟩:=two j k hg h;exact OT f hy
  ·intro s a b c hs j k m hn g hg d;rw[Tm.bY] at hn d;simp only[cn] at hn d;refine ju gw gw th (by intro x f;simp at f;rcases f with rfl|rfl|rfl<;>first|exact l _ cw j g hg cw|exact l _ cw k g hg cw|exact l _ cw m g hg cw) (λts h=>?_);obtain⟨x,y,z,rfl,f,hy,u⟩:=three j k m hg h;exact ON hs f hy u
  ·intro a b j k hn g hg d;rw[Tm.bY] at hn d;simp only[cn] at hn d;refine ju gw gw th (by intro x f;simp at f;rcases f with rfl|rfl<;>first|exact l _ cw j g hg cw|exact l _ cw k g hg cw) (λts h=>?_);obtain⟨x,y,rfl,f,hy⟩:=two j k hg h;exact Oz f hy
  ·intro a j hn g hg d;rw[Tm.bY] at hn d;simp only[cn] at hn d;refine ju gw gw th (by intro x f;simp at f;subst f;exact l _ cw j g hg cw) (λts h=>?_);obtain⟨x,rfl,f⟩:=one j hg h;exact Qw f
  ·intro a j hn g hg d;rw[Tm.bY] at hn d;simp only[cn] at hn d;refine ju gw gw th (by intro x f;simp at f;subst f;exact l _ cw j g hg cw) (λts h=>?_);obtain⟨x,rfl,f⟩:=one j hg h;exact PH f
  ·intro hn g hg d;exact ju gw gw th th (λts h=>by rw[Tm.sl] at h;cases h;exact OY)
def vw{t:Tm}{g:List Ty}(a:t.ok=true)(hg:fQ g)(b:g.length+t.acJ<=1000000):cO FU (g.map qw) t=some (Gg (t.ty g)):=
 BX FU t (by have:=cV;omega) a g hg b
noncomputable def mU (t:Tm) (g:List Ty) (k:Int):Int:=if(t.ty g).2=0/\(t.ty g).1.acH≠k then 7 else(t.ty g).2
def yN{t:Tm}{g:List Ty}(k:Int)(c:t.ok=true)(hg:fQ g)(d:g.length+t.acJ<=1000000):hQ (g.map qw) t k=some (mU t g k):=by
 unfold hQ mU;rw[vw c hg d];generalize t.ty g=q;obtain⟨r,e⟩:=q
 by_cases a:e=0
 ·subst a;rw[nA,bW];simp only[cc];rw[bX aal,CA,bT,CF]
  by_cases b:r.acH=k
  ·rw[r9 b,bV gw,bV (λh=>h.2 b)]
  ·rw[AN b,bX gw,bX ⟨trivial,b⟩]
 ·rw[jO a,bW];simp only[cc];rw[bV (by simpa[cr] using a),bV gw,bV (λh=>a h.1)]
def uP{t:Tm}{g:List Ty}(a:t.ok=true)(hg:fQ g)(b:g.length+t.acJ<=1000000):gV (g.map qw) t=some (mU t g 1):=by
 unfold gV;rw[yN 1 a hg b];rfl
mutual
noncomputable def Fm.ta:Fm->List Ty->Int
 |.mk k s ts l,g=>if dp (ts.map λt=>mU t g 1)=0 then Fm.QC l (if gL k then g++[s] else g)else dp (ts.map λt=>mU t g 1)
noncomputable def Fm.QC:List Fm->List Ty->Int
 |[],_=>0|f::l,g=>if f.ta g=0 then Fm.QC l g else f.ta g
end
def Fm.NC(g:List Ty):∀l:List Fm,Fm.QC l g=dp (l.map λf=>f.ta g)
 |[]=>by rw[Fm.QC];rfl|f::l=>by rw[Fm.QC,Fm.NC g l];rfl
def Fm.rG(k:Int)(s:Ty)(ts:List Tm)(l:List Fm)(g:List Ty):(Fm.mk k s ts l).ta g=if dp (ts.map λt=>mU t g 1)=0 then dp (l.map λf=>f.ta (if gL k then g++[s] else g))else dp (ts.map λt=>mU t g 1):=by
 rw[Fm.ta,Fm.NC]
def xx{t:Tm}{g:List Ty}(a:t.ok=true)(hn:t.acJ<=4096)(hg:fQ g)(b:g.length<=900000):np g t=some (t.ty g):=by
 unfold np;have hw:=t.eO a;rw[lJ cw]
 have he:t.err=0:=by unfold Tm.err;rw[bX a,bV cw]
 rw[he];simp only[bT];rw[bV gw,xV FU t (by have:=cV;omega) a g hg cw];rfl
def G7{t:Tm}{g:List Ty}(f:t.ok=true)(hn:t.acJ<=4096)(hg:fQ g)(i:g.length<=900000):(b8 (np g t) λd a=>if(cG a 0) then(some (.ret a))else(if(cG d.acH 1) then(some (.ret 7))else(some (.next ()))):Option (dJ Unit Int))=
   if mU t g 1≠0 then some (.ret (mU t g 1))else some (.next ()):=by
 rw[xx f hn hg i];unfold mU;generalize t.ty g=q;obtain⟨r,e⟩:=q;simp only[bW,cg]
 by_cases b:e=0
 ·subst b
  by_cases c:r.acH=1
  ·rw[bV th,bV (by simp[c]),bV (show¬((0:Int)=0/\r.acH≠1)fromλh=>h.2 c),bV th]
  ·rw[bV th,bX c,bX (show(0:Int)=0/\r.acH≠1 from⟨rfl,c⟩),bX gw]
 ·rw[bX b,bV (show¬(e=0/\r.acH≠1)fromλh=>b h.1),bX b]
def qx{e:Int}:(bU (some e) λa=>if(cG a 0) then(some (.ret a))else(some (.next ())):Option (dJ Unit Int))=if e≠0 then some (.ret e)else some (.next ()):=by
 rw[bT]
 by_cases h:e=0
 ·subst h;rfl
 ·rw[bX (by simpa[cG] using h),bX h]
def tg{l:List Int}{k:Unit⊕Int->Option Int}(h:k=dI (λ_=>some 0) (λr=>some r)):bU (if dp l=0 then some (.inl ())else some (.inr (dp l))) k=some (dp l):=by
 subst h
 by_cases h:dp l=0
 ·rw[bX h,h];rfl
 ·rw[bV h];rfl
def xO(f:Fm)(v:f.ok=true):∀n,f.acJ<=n->∀g,fQ g->g.length+f.acJ<=900000->f.acJ<=4096->kQ n g f=some (f.ta g):=by
 refine Fm.kV (p:=λf=>∀n,f.acJ<=n->∀g,fQ g->g.length+f.acJ<=900000->f.acJ<=4096->kQ n g f=some (f.ta g)) ?_ ?_ ?_ f v
 ·intro a b l u n hn g hg c d;rw[Fm.bY] at hn c d;simp only[cn] at hn c d;obtain⟨n,rfl⟩:∃m,n=m+1:=⟨n-1,cw⟩;rw[kQ,Fm.rG];simp only[cc,Fm.eI,Fm.ck,Fm.cx,jT,bT]
  rw[ch th,b6,kC (λt=>mU t g 1) [a,b] 0 (λj x e=>by
   simp only[jA,Oa,qC] at e;rcases e with rfl|rfl
   ·exact G7 l cw hg cw
   ·exact G7 u cw hg cw)]
  rw[show gL 1=false from rfl]
  by_cases h:dp ([a,b].map λt=>mU t g 1)=0
  ·rw[bX h,bX h];rfl
  ·rw[bV h,bV h];rfl
 ·intro k a b o l u i q n hn g hg c d;rw[Fm.bY] at hn c d;simp only[cn] at hn c d;obtain⟨n,rfl⟩:∃m,n=m+1:=⟨n-1,cw⟩
  have r:gL k=false:=by rcases o with rfl|rfl<;>rfl
  rw[kQ,Fm.rG];simp only[cc,Fm.eI,Fm.ck,Fm.cx,jT,bT,r,pF,dp]
  rw[ch th,b6,k9,bT,b9,bV gw,bX trivial,ch th,b6,kC (λf=>f.ta g) [a,b] 0 (λj x e=>by
   simp only[jA,Oa,qC] at e;rcases e with rfl|rfl
   ·rw[i n cw g hg cw cw];exact qx
   ·rw[q n cw g hg cw cw];exact qx)]
  exact tg rfl
 ·intro k s a o hs l i n hn g hg c d;rw[Fm.bY] at hn c d;simp only[cn] at hn c d;obtain⟨n,rfl⟩:∃m,n=m+1:=⟨n-1,cw⟩
  have r:gL k=true:=by rcases o with rfl|rfl|rfl|rfl<;>rfl
  rw[kQ,Fm.rG];simp only[cc,Fm.eI,Fm.ck,Fm.cx,Fm.cT,jT,bT,r,pF,dp];rw[ch th,b6,k9,bT,b9];simp only[if_true]
  rw[dc aae,b6,ei,ch th,b6,kC (λf=>f.ta (g++[s])) [a] 0 (λj x e=>by
   simp only[jA,Oa,qC] at e;subst e
   rw[i n cw (g++[s]) (hg.app hs) aae cw];exact qx)]
  exact tg rfl
def pS{g:List Ty}{s:Ty}(hs:s.err=0)(a:g.length<=900000):eC (g.map qw) [s]=some ((g++[s]).map qw):=by
 unfold eC pA;simp only[cc];rw[ch th,b6,cM,jj hs];simp only[bT];rw[dc th,b6];simp only[bT,cS,k9,b9,ei,mw];rw[dc aae,b6,xz]
def CE{t:Tm}{g:List Ty}(b:t.ok=true)(hn:t.acJ<=4096)(hg:fQ g)(c:g.length<=900000):(bU (gV (g.map qw) t) λa=>if(cG a 0) then(some (.ret a))else(some (.next ())):Option (dJ Unit Int))=if mU t g 1≠0 then some (.ret (mU t g 1))else some (.next ()):=by
 rw[uP b hg cw];exact qx
def ud(f:Fm)(A:f.ok=true):∀n,f.acJ<=n->∀g,fQ g->g.length+f.acJ<=900000->f.acJ<=4096->cN n (g.map qw) f=some (f.ta g):=by
 refine Fm.kV (p:=λf=>∀n,f.acJ<=n->∀g,fQ g->g.length+f.acJ<=900000->f.acJ<=4096->cN n (g.map qw) f=some (f.ta g)) ?_ ?_ ?_ f A
 ·intro a b u y n hn g hg c d;rw[Fm.bY] at hn c d;simp only[cn] at hn c d;obtain⟨n,rfl⟩:∃m,n=m+1:=⟨n-1,cw⟩;rw[cN,Fm.rG];simp only[cc,Fm.eI,Fm.ck]
  rw[bV th,bV th,bV th,ch th,b6,kC (λt=>mU t g 1) [a,b] 0 (λj x e=>by
   simp only[jA,Oa,qC] at e;rcases e with rfl|rfl
   ·exact CE u cw hg cw
   ·exact CE y cw hg cw)]
  rw[tg rfl]
  by_cases h:dp ([a,b].map λt=>mU t g 1)=0
  ·rw[bX h,h];rfl
  ·rw[bV h]
 ·intro k a b l u y o v n hn g hg c d;rw[Fm.bY] at hn c d;simp only[cn] at hn c d;obtain⟨n,rfl⟩:∃m,n=m+1:=⟨n-1,cw⟩
  have w:gL k=false:=by rcases l with rfl|rfl<;>rfl
  have B:dq (cr k 4) true (cr k 5)=false:=by rcases l with rfl|rfl<;>rfl
  have k2:dq (cr k 6) true (cr k 7)=false:=by rcases l with rfl|rfl<;>rfl
  have C:dq (cr k 2) true (cr k 3)=true:=by rcases l with rfl|rfl<;>rfl
  rw[cN,Fm.rG];simp only[cc,Fm.eI,Fm.ck,w,pF,dp];rw[bV (by simp only[Fm.cx,B];decide),bV (by simp only[Fm.cx,k2];decide),bX (by simp only[Fm.cx,C])];simp only[if_true,hZ,fG]
  rw[ch th,b6,kC (λf=>f.ta g) [a,b] 0 (λj x e=>by
   simp only[jA,Oa,qC] at e;rcases e with rfl|rfl
   ·rw[o n cw g hg cw cw];exact qx
   ·rw[v n cw g hg cw cw];exact qx)]
  exact tg rfl
 ·intro k s a l hs u o n hn g hg c d;rw[Fm.bY] at hn c d;simp only[cn] at hn c d;obtain⟨n,rfl⟩:∃m,n=m+1:=⟨n-1,cw⟩
  have w:gL k=true:=by rcases l with rfl|rfl|rfl|rfl<;>rfl
  rw[cN,Fm.rG];simp only[cc,Fm.eI,Fm.ck,Fm.cT,w,pF,dp,pS hs (show g.length<=900000 by omega),bT,if_true]
  have fin:(ef (c0 [a])<|bU (cY (λ(z:Int) (q:Fm)=>(λ(_:Unit)=>
    bU (cN n ((g++[s]).map qw) q) λi=>
    if(cG i 0) then(
    some (.ret i))
    else(some (.next ()))):Int->Fm->(Unit)->(Option (dJ (Unit) (Int)))) [a] 0 ()) (dI (λ(_:Unit)=>some 0) (λr=>some r)))=some (dp ([a].map λf=>f.ta (g++[s]))):=by
   rw[ch th,b6,kC (λf=>f.ta (g++[s])) [a] 0 (λj x e=>by
    simp only[jA,Oa,qC] at e;subst e
    rw[o n cw (g++[s]) (hg.app hs) aae cw];exact qx)]
   exact tg rfl
  rcases l with rfl|rfl|rfl|rfl
  ·rw[bX th];exact fin
  ·rw[bX th];exact fin
  ·rw[bV th,bX th];exact fin
  ·rw[bV th,bX th];exact fin
mutual
def Fm.up(f b:Int):Fm->Fm
 |.mk k s ts l=>.mk k s (ts.map (Tm.up f b)) (Fm.S3 (f+qB k) b l)
def Fm.S3(f b:Int):List Fm->List Fm
 |[]=>[]|t::l=>t.up f b::Fm.S3 f b l
end
def Fm.Lv(f b:Int)(l:List Fm):Fm.S3 f b l=l.map (Fm.up f b):=by
 induction l with
 |nil=>rfl|cons t l a=>simp[Fm.S3,a]
theorem Fm.fx(f b k:Int)(s:Ty)(ts:List Tm)(l:List Fm):(Fm.mk k s ts l).up f b=.mk k s (ts.map (Tm.up f b)) (l.map (Fm.up (f+qB k) b)):=by rw[Fm.up,Fm.Lv]
mutual
def Fm.acN(m:Int):Fm->Bool
 |.mk _ _ ts l=>ts.all (Tm.acN m)&&Fm.rH m l
def Fm.rH(m:Int):List Fm->Bool
 |[]=>true|t::l=>t.acN m&&Fm.rH m l
end
def Fm.Bc(m:Int)(l:List Fm):Fm.rH m l=l.all (Fm.acN m):=by
 induction l with
 |nil=>rfl|cons t l a=>simp[Fm.rH,a]
theorem Fm.dn(m k:Int)(s:Ty)(ts:List Tm)(l:List Fm):(Fm.mk k s ts l).acN m=(ts.all (Tm.acN m)&&l.all (Fm.acN m)):=by rw[Fm.acN,Fm.Bc]
mutual
def Fm.acP(a:Int):Fm->Nat
 |.mk k _ ts l=>cn (Tm.acP a) ts+Fm.wq (a+qB k) l
def Fm.wq(a:Int):List Fm->Nat
 |[]=>0|t::l=>t.acP a+Fm.wq a l
end
def Fm.Bb(a:Int)(l:List Fm):Fm.wq a l=cn (Fm.acP a) l:=by
 induction l with
 |nil=>rfl|cons t l b=>simp[Fm.wq,cn,b]
def Fm.ee(a k:Int)(s:Ty)(ts:List Tm)(l:List Fm):(Fm.mk k s ts l).acP a=cn (Tm.acP a) ts+cn (Fm.acP (a+qB k)) l:=by rw[Fm.acP,Fm.Bb]
mutual
def Fm.e_:Int->Fm->Tm->Fm
 |n,.mk k ty ts l,s=>.mk k ty (ts.map λx=>Tm.e_ n x s) (Fm.HP (n+qB k) l s)
def Fm.HP:Int->List Fm->Tm->List Fm
 |_,[],_=>[]|n,t::l,s=>Fm.e_ n t s::Fm.HP n l s
end
def Fm.IA(n:Int)(s:Tm)(l:List Fm):Fm.HP n l s=l.map (λx=>Fm.e_ n x s):=by
 induction l with
 |nil=>rfl|cons t l a=>simp[Fm.HP,a]
theorem Fm.fB(n:Int)(s:Tm)(k:Int)(ty:Ty)(ts:List Tm)(l:List Fm):Fm.e_ n (Fm.mk k ty ts l) s=.mk k ty (ts.map λx=>Tm.e_ n x s) (l.map λx=>Fm.e_ (n+qB k) x s):=by rw[Fm.e_,Fm.IA]
def Fm.fZ(t:Fm):∀a,t.acP a<=t.acJ:=by
 induction t using Fm.ind with
 |h k s ts l b=>
  intro a;rw[Fm.ee,Fm.bY];have:=iu (f:=Fm.acP (a+qB k)) (g:=Fm.acJ) (l:=l) λx c=>b x c _;have:=iu (f:=Tm.acP a) (g:=Tm.acJ) (l:=ts) λx _=>x.fZ _;omega
theorem Fm.nN(t:Fm):∀f b,(t.up f b).acJ=t.acJ:=by
 induction t using Fm.ind with
 |h k s ts l a=>
  intro f b;rw[Fm.fx,Fm.bY,Fm.bY,ru,ru,vY λx c=>a x c _ _,vY λx _=>Tm.nN x f b]
theorem Fm.EZ(t:Fm):∀f b,0<=f->0<=b->(t.up f b).ok=t.ok:=by
 induction t using Fm.ind with
 |h k s ts l c=>
  intro f b d a;have:=yP k;rw[Fm.fx,Fm.eo,Fm.eo,GD,GD,ur λx e=>c x e (f+qB k) b cw a,ur λx _=>Tm.EZ x f b d a]
def JK{α:Type}{a b c:α->Nat}{m:Nat}{l:List α}(h:∀x∈l,a x+b x=c x+b x*m):cn a l+cn b l=cn c l+cn b l*m:=by
 induction l with
 |nil=>simp[cn]|cons y l d=>
  have f:=h y th;have g:=d λx e=>h x VW;simp only[cn,vF];omega
def Fm.pB(s:Tm)(t:Fm):∀n,t.ok=true->(Fm.e_ n t s).acJ+t.acP n=t.acJ+t.acP n*s.acJ:=by
 induction t using Fm.ind with
 |h k ty ts l f=>
  intro n d;rw[Fm.eo] at d;simp only[ed,ie] at d;rw[Fm.fB,Fm.ee,Fm.bY,Fm.bY,ru,ru,vF];have g:=JK (l:=ts) (a:=λx=>(Tm.e_ n x s).acJ) (b:=Tm.acP n) (c:=Tm.acJ) (m:=s.acJ) λx e=>Tm.pB s x n (d.1.2 x e);have i:=JK (l:=l) (a:=λx=>(Fm.e_ (n+qB k) x s).acJ) (b:=Fm.acP (n+qB k)) (c:=Fm.acJ) (m:=s.acJ) λx e=>f x e _ (d.2 x e);omega
def Aa{t:Tm}(m:Int)(h:t.acJ<=1000000000):jC FU t m=some (t.acN m):=w7 FU t m (by rw[cV];exact h) h
def xI:∀(n:Nat) (t:Fm) (m:Int),t.acJ<=n->t.acJ<=1000000000->l0 n t m=some (t.acN m):=by
 intro n
 induction n with
 |zero=>intro t m h;have:=t.cu;omega
 |succ n c=>
  intro t m h d;cases t with
  |mk k s ts l=>
   rw[Fm.bY] at h d;have g:=Fm.dm l;have e:=Tm.dm ts
   have f:cY (ρ:=Bool) (λ(_:Int) (x:Tm) (_:Unit)=>bU (jC FU x m) λa=>if a then some (dJ.next ())else some (dJ.ret false)) ts 0 ()=if ts.all (Tm.acN m) then some (.inl ())else some (.inr false):=by
    refine n8 (Tm.acN m) _ ts 0 ?_;intro j x b;have:=cy Tm.acJ b;rw[Aa m cw];rfl
   have k2:cY (ρ:=Bool) (λ(_:Int) (x:Fm) (_:Unit)=>bU (l0 n x m) λa=>if a then some (dJ.next ())else some (dJ.ret false)) l 0 ()=if l.all (Fm.acN m) then some (.inl ())else some (.inr false):=by
    refine n8 (Fm.acN m) _ l 0 ?_;intro j x b;have:=cy Fm.acJ b;rw[c x m cw cw];rfl
   rw[l0];simp only[Fm.ck,Fm.eI,cc,ch (l:=l) cw,ch (l:=ts) cw,b6,f,k2,Fm.dn];cases i:ts.all (Tm.acN m)<;>cases o:l.all (Fm.acN m)<;>simp
def w9:∀(n:Nat) (t:Fm) (f b:Int),t.acJ<=n->t.acJ<=1000000000->0<=f->f+t.acJ<=10000000000->0<=b->b<=10000000000->t.acN 1000000000000=true->ft n t f b=some (t.up f b):=by
 intro n
 induction n with
 |zero=>intro t f b h;have:=t.cu;omega
 |succ n o=>
  intro t f b h d p e i a hi;cases t with
  |mk k s ts l=>
   rw[Fm.bY] at h d e;rw[Fm.dn] at hi;simp only[ed,ie] at hi;have r:=Fm.dm l;have q:=Tm.dm ts;have u:=yP k;rw[ft];simp only[Fm.ck,Fm.eI,Fm.cx,Fm.cT,cc,ch (l:=l) cw,ch (l:=ts) cw,b6];rw[gG (Tm.up f b) ts 0 [] aae]
   ·simp only[bT,b9];rw[gG (Fm.up (f+qB k) b) l 0 [] aae]
    ·simp[Fm.fx]
    ·intro j x v c g;have:=cy Fm.acJ c;rw[nP];simp only[bT,Fm.cx];rw[cX cw cw,o x (f+qB k) b cw cw cw cw i a (hi.2 x c)];simp[dc (l:=v) (m:=[x.up (f+qB k) b]) (by simpa using g)]
   ·intro j x v c g;have:=cy Tm.acJ c;rw[B9 FU x f b (by rw[cV];omega) cw p cw i a (hi.1 x c)];simp[dc (l:=v) (m:=[x.up f b]) (by simpa using g)]
def DO:∀(n:Nat) (t:Fm) (a:Int),t.acJ<=n->t.acJ<=1000000000->0<=a->a+t.acJ<=10000000000->nH n t a=some (t.acP a:Int):=by
 intro n
 induction n with
 |zero=>intro t a h;have:=t.cu;omega
 |succ n g=>
  intro t a h c i d;cases t with
  |mk k s ts l=>
   rw[Fm.bY] at h c d;have q:=Fm.dm l;have m:=Tm.dm ts;have r:=yP k;have o:cn (Fm.acP (a+qB k)) l<=cn Fm.acJ l:=iu λx _=>x.fZ _;have f:cn (Tm.acP a) ts<=cn Tm.acJ ts:=iu λx _=>x.fZ _;rw[nH];simp only[Fm.ck,Fm.eI,Fm.cx,cc,ch (l:=l) cw,ch (l:=ts) cw,b6]
   have p:=nK (ρ:=Int) (F:=λ(_:Int) (x:Tm) (v:Int)=>bU (kW FU x a) λy=>some (dJ.next (da .i64 v y))) (Tm.acP a) ts 0 0 cw (by
    intro j x v e;have:=cy Tm.acJ e;rw[xU FU x a (by rw[cV];omega) cw i cw]
    rfl)
   have k2:=nK (ρ:=Int) (F:=λ(_:Int) (x:Fm) (v:Int)=>bU (kO (Fm.mk k s ts l)) λb=>bU (nH n x (da .i64 a b)) λy=>some (dJ.next (da .i64 v y))) (Fm.acP (a+qB k)) l 0 (0+cn (Tm.acP a) ts) cw (by
    intro j x v e;have:=cy Fm.acJ e;rw[nP];simp only[bT,Fm.cx];rw[cX cw cw,g x _ cw cw cw cw]
    rfl)
   rw[show(0:Int)=((0:Nat):Int)from rfl,p];simp only[bT,b9];rw[k2];simp[Fm.ee]
def J5:∀(n:Nat) (t:Fm) (a b:Int) (s:Tm),t.acJ<=n->t.acJ<=1000000000->0<=a->0<=b->a+b+t.acJ<=5000000000->t.acN 1000000000000=true->t.ok=true->s.acJ<=1000000000->s.acN 1000000000000=true->vA n t a b s=some (Fm.e_ (a+b) t s):=by
 intro n
 induction n with
 |zero=>intro t a b s h;have:=t.cu;omega
 |succ n p=>
  intro t a b s h f o q g hi c hs e;cases t with
  |mk k ty ts l=>
   rw[Fm.bY] at h f g;rw[Fm.dn] at hi;rw[Fm.eo] at c;simp only[ed,ie] at hi c;have u:=Fm.dm l;have r:=Tm.dm ts;have w:=yP k;rw[vA];simp only[Fm.ck,Fm.eI,Fm.cx,Fm.cT,cc,ch (l:=l) cw,ch (l:=ts) cw,b6];rw[gG (λx=>Tm.e_ (a+b) x s) ts 0 [] aae]
   ·simp only[bT,b9];rw[gG (λx=>Fm.e_ (a+b+qB k) x s) l 0 [] aae]
    ·simp[Fm.fB]
    ·intro j x v d i;have:=cy Fm.acJ d;rw[nP];simp only[bT,Fm.cx];rw[cX cw cw,p x a (b+qB k) s cw cw o cw cw (hi.2 x d) (c.2 x d) hs e];rw[show a+(b+qB k)=a+b+qB k by omega];simp[dc (l:=v) (m:=[Fm.e_ (a+b+qB k) x s]) (by simpa using i)]
   ·intro j x v d i;have:=cy Tm.acJ d;rw[Co FU x a b s (by rw[cV];omega) cw o q cw (hi.1 x d) (c.1.2 x d) hs e];simp[dc (l:=v) (m:=[Tm.e_ (a+b) x s]) (by simpa using i)]
def Fm.iB(t:Fm):∀{m n:Int},m<=n->t.acN m=true->t.acN n=true:=by
 induction t using Fm.ind with
 |h k s ts l c=>
  intro m n a h;rw[Fm.dn] at*;simp only[ed,ie] at*;exact⟨λx b=>Tm.iB x a (h.1 x b),λx b=>c x b a (h.2 x b)⟩
def eY.acN{g:List Ty}{f:Fm}(h:eY g f):∀m:Int,((g.length+f.acJ:Nat):Int)<=m->f.acN m=true:=by
 induction h with
 |eq c d=>
  intro m hm;simp only[Fm.bY,cn] at hm;simp only[Fm.dn,we,Ov,Gn,ed];exact⟨c.acN m cw,d.acN m cw⟩
 |two _ _ _ a b=>
  intro m hm;simp only[Fm.bY,cn] at hm;simp only[Fm.dn,we,Ov,Gn,ed,yH];exact⟨a m cw,b m cw⟩
 |q _ _ _ e=>
  intro m hm;simp only[Fm.bY,cn] at hm;simp only[Fm.dn,we,Ov,Gn,yH];exact e m aae
def Tm.A8(φ:Int->Int->Tm)(b:Int):Tm->Tm
 |.mk k i s l=>if k=1 then φ i b else .mk k i s (l.attach.map λx=>Tm.A8 φ (b+dD k) x.1)
decreasing_by
 have:=Vr x.2;simp only[Tm.mk.sizeOf_spec];omega
def Tm.wC(φ:Int->Int->Tm)(b k i:Int)(s:Ty)(l:List Tm):(Tm.mk k i s l).A8 φ b=if k=1 then φ i b else .mk k i s (l.map (Tm.A8 φ (b+dD k))):=by
 rw[Tm.A8]
 congr 2
 exact ZJ
def vd(k b:Int)(a:-1000000000000<=b)(c:b<=1000000000000):dq (cr k 2) (da .i64 b 1) b=b+dD k:=by
 unfold dD
 by_cases h:k=2
 ·subst h;rw[show cr 2 2=true from rfl,bX rfl];exact cX cw cw
 ·rw[show cr k 2=false by simpa[cr] using h,bV h];show b=b+0;omega
def tG{h:Int->Int->Option Tm}{φ:Int->Int->Tm}{M:Int}(y:∀i b,0<=i->i<=M->0<=b->b<=10000000000->h i b=some (φ i b)):∀(n:Nat) (t:Tm) (b:Int),t.acJ<=n->t.acJ<=50000000->t.ok=true->t.acN M=true->0<=b->b+t.acJ<=10000000000->eP n t b (λ(s:Unit) (g:Int) (m:Int)=>mK (h g m) s) ()=some (t.A8 φ b,()):=by
 intro n
 induction n with
 |zero=>intro t b h;have:=t.cu;omega
 |succ n z=>
  intro t b hn A o p B q;cases t with
  |mk k i s l=>
   rw[Tm.bY] at hn A q;have hlen:=Tm.dm l;have e:=o;rw[Tm.eo,ed] at o;have C:=Ty.uG o.1;rw[Tm.dn,ed,K0,ie] at p;rw[eP,Tm.wC]
   by_cases r:k=1
   ·subst r;have hi:=(Tm.jg e).2.1;rw[bX aal,bX rfl];simp only[Tm.dK];rw[y i b hi p.1 B cw,w5,bW]
   ·rw[bV (by simpa[cr] using r),bV r];simp only[Tm.cT,Tm.ck,Tm.cx,Tm.dK,cc];rw[kj cw,bT,ch cw,b6,vd k b cw cw];have D:=gi k
    have loop:∀(ts:List Tm) (j:Nat) (v:List Tm),(∀t∈ts,t∈l)->v.length+ts.length<=50000000->cY (λ(E:Int) (w:Tm)=>(rD λ(a:List Tm) (v107:Unit)=>
       b8 (eP n w (b+dD k) (λ(s:Unit) (g:Int) (m:Int)=>mK (h g m) s) v107) λc f=>
       ef (dP a [c])<|some ((.next ((dN a [c]),f)):dJ ((List Tm)×Unit) (Tm×Unit)))) ts j (v,())=some (.inl (v++ts.map (Tm.A8 φ (b+dD k)),())):=by
     intro ts
     induction ts with
     |nil=>intro j v _ _;simp|cons t ts x=>
      intro j v hm F;simp only[jK] at F;have d:=hm t th;have G:=cy Tm.acJ d;rw[cM];simp only[rD];rw[z t (b+dD k) cw cw ((Tm.jg e).2.2.2.1 t d) (p.2 t d) cw cw,bW,dc aae,b6];simp only[bT,cS];rw[ei];have:=x (j+1) (v++[t.A8 φ (b+dD k)]) (λu hu=>hm u (by simp[hu])) aae;rw[this];simp
    rw[loop l 0 [] (λt h=>h) aae,bT];simp
structure Bd (t:Tm):Prop where
 ok:t.ok=true
 acN:t.acN 1000000000000=true
 acJ:t.acJ<=50000000
def Tm.Ln(f c:Int)(n:0<=f):∀(t:Tm) (b:Int),0<=b->t.ok=true->t.A8 (λi b=>.mk 1 (if f<=i-b then i+c else i) (.mk 0 []) []) b=t.up (f+b) c:=by
 intro t
 induction t using Tm.ind with
 |h k i s l g=>
  intro b o a;have hi:=Tm.jg a;rw[Tm.wC,Tm.fx]
  by_cases d:k=1
  ·subst d;rw[bX rfl]
   have j:l=[]:=by
    have:=hi.2.2.2.2;unfold eF at this;rw[bX (.inl rfl)] at this;exact yD cw
   have hs:s=.mk 0 []:=by
    rw[Tm.eo] at a;simp only[Tm.node,ed] at a;have:=a.1.2;rw[bV gw] at this;exact(Ty.iI s).1 this
   subst j;subst hs;simp only[pF,zE]
   congr 1
   by_cases h:f+b<=i
   ·rw[bX h,bX cw]
   ·rw[bV h,bV cw]
  ·rw[bV d,bV (λh=>d h.1)];have m:=gi k
   congr 1
   exact qg λx e=>by rw[g x e (b+dD k) cw (hi.2.2.2.1 x e),show f+(b+dD k)=f+b+dD k by omega]
def AR{t:Tm}{f c:Int}(h:Bd t)(d:0<=f)(e:f<=10000000000)(m:0<=c)(g:c<=10000000000):pe t f c=some (t.up f c):=by
 unfold pe mg;rw[tG (h:=λj k=>rn j k f c) (φ:=λi b=>.mk 1 (if f<=i-b then i+c else i) (.mk 0 []) []) (M:=1000000000000) (λi b n o p q=>?_) FU t 0 (by have:=cV;have:=h.acJ;omega) h.acJ h.ok h.acN cw (by have:=h.acJ;omega)]
 ·rw[bW,bW,Tm.Ln f c d t 0 cw h.ok,show f+0=f by omega]
 ·unfold rn fk;simp only[bT];rw[dh cw cw,cX cw cw]
  by_cases a:f<=i-b
  ·rw[bX a,show qf (i-b) f=true by rw[fF];exact a];rfl
  ·rw[bV a,show qf (i-b) f=false by
    cases l:qf (i-b) f with
    |false=>rfl|true=>exact absurd ((fF _ _).1 l) a];rfl
def jh(k:Int):kL k=some (gL k):=by
 unfold kL gL;rw[pW];simp only[qf,Dh,uv];rw[<-Bool.decide_and];exact AS.2 (by simp only[K0];omega)
def Fm.mz{k:Int}{s:Ty}{ts:List Tm}{l:List Fm}(h:(Fm.mk k s ts l).ok=true):s.acJ<=64/\(∀t∈ts,t.ok=true)/\(∀f∈l,f.ok=true):=by
 rw[Fm.eo] at h;simp only[ed,ie] at h;refine⟨?_,h.1.2,h.2⟩;have hn:=h.1.1;unfold Fm.node at hn
 split at hn
 ·simp only[ed] at hn;rw[(Ty.iI s).1 hn.1.1,Ty.bY];simp[cn]
 ·split at hn
  ·simp only[ed] at hn;rw[(Ty.iI s).1 hn.1.1,Ty.bY];simp[cn]
  ·simp only[ed,mH] at hn;exact df hn.1.1.2
def Fm.A8(ψ:Tm->Int->Tm)(b:Int):Fm->Fm
 |.mk k s ts l=>.mk k s (ts.map λt=>ψ t b) (l.attach.map λx=>Fm.A8 ψ (b+qB k) x.1)
decreasing_by
 have:=Vr x.2;simp only[Fm.mk.sizeOf_spec];omega
def Fm.wC(ψ:Tm->Int->Tm)(b k:Int)(s:Ty)(ts:List Tm)(l:List Fm):(Fm.mk k s ts l).A8 ψ b=.mk k s (ts.map λt=>ψ t b) (l.map (Fm.A8 ψ (b+qB k))):=by
 rw[Fm.A8]
 congr 1
 exact ZJ
def me{h:Tm->Int->Option Tm}{ψ:Tm->Int->Tm}(J:∀t b,Bd t->0<=b->b<=1000000000->h t b=some (ψ t b)):∀(n:Nat) (f:Fm) (b:Int),f.acJ<=n->f.acJ<=50000000->f.ok=true->f.acN 1000000000000=true->0<=b->b+f.acJ<=1000000000->cL n f b (λ(s:Unit) (q:Tm) (w:Int)=>mK (h q w) s) ()=some (f.A8 ψ b,()):=by
 intro n
 induction n with
 |zero=>intro f b h;have:=f.cu;omega
 |succ n K=>
  intro f b hn L M A N B;cases f with
  |mk k s ts l=>
   rw[Fm.bY] at hn L B;have O:=eB Tm.acJ ts λt _=>t.cu;have P:=eB Fm.acJ l λt _=>t.cu;obtain⟨Q,C,D⟩:=Fm.mz M;rw[Fm.dn,ed,ie,ie] at A;rw[cL,Fm.wC];simp only[Fm.cT,Fm.ck,Fm.cx,Fm.eI,cc];rw[kj cw,bT,ch cw,b6];have R:=yP k
   have m:∀(us:List Tm) (j:Nat) (v:List Tm),(∀t∈us,t∈ts)->v.length+us.length<=50000000->cY (λ(S:Int) (E:Tm)=>(rD λ(v91:List Tm) (F:Unit)=>
      b8 (mK (h E b) F) λi x=>
      ef (dP v91 [i])<|some ((.next ((dN v91 [i]),x)):dJ ((List Tm)×Unit) (Fm×Unit)))) us j (v,())=some (.inl (v++us.map (λt=>ψ t b),())):=by
    intro us
    induction us with
    |nil=>intro j v _ _;simp|cons t us o=>
     intro j v hm G;simp only[jK] at G;have d:=hm t th;have H:=cy Tm.acJ d;rw[cM];simp only[rD];rw[J t b ⟨C t d,A.1 t d,cw⟩ N cw,w5,bW,dc aae,b6];simp only[bT,cS];rw[ei];have:=o (j+1) (v++[ψ t b]) (λu hu=>hm u (by simp[hu])) aae;rw[this];simp
   rw[m ts 0 [] (λt h=>h) aae,bT];simp only[b9,rD];rw[jh,bT]
   have p:∀(us:List Fm) (j:Nat) (v:List Fm),(∀t∈us,t∈l)->v.length+us.length<=50000000->cY (λ(y:Int) (e:Fm)=>(rD λ(a:List Fm) (v212:Unit)=>
      b8 (cL n e (b+qB k) (λ(s:Unit) (q:Tm) (w:Int)=>mK (h q w) s) v212) λc g=>
      ef (dP a [c])<|some ((.next ((dN a [c]),g)):dJ ((List Fm)×Unit) (Fm×Unit)))) us j (v,())=some (.inl (v++us.map (Fm.A8 ψ (b+qB k)),())):=by
    intro us
    induction us with
    |nil=>intro j v _ _;simp|cons t us o=>
     intro j v hm G;simp only[jK] at G;have d:=hm t th;have H:=cy Fm.acJ d;rw[cM];simp only[rD];rw[K t (b+qB k) cw cw (D t d) (A.2 t d) cw cw,bW,dc aae,b6];simp only[bT,cS];rw[ei];have:=o (j+1) (v++[t.A8 ψ (b+qB k)]) (λu hu=>hm u (by simp[hu])) aae;rw[this];simp
   have fin:(ef (c0 l)<|bU (cY (λ(y:Int) (e:Fm)=>(rD λ(a:List Fm) (v212:Unit)=>
      b8 (cL n e (b+qB k) (λ(s:Unit) (q:Tm) (w:Int)=>mK (h q w) s) v212) λc g=>
      ef (dP a [c])<|some ((.next ((dN a [c]),g)):dJ ((List Fm)×Unit) (Fm×Unit)))) l 0 ([],())) (dI (rD λ(a:List Fm) (v212:Unit)=>some ((Fm.mk k s ([]++ts.map λt=>ψ t b) a),v212)) (λr=>some r)))=some (Fm.mk k s (ts.map λt=>ψ t b) (l.map (Fm.A8 ψ (b+qB k))),()):=by
    rw[ch cw,b6,p l 0 [] (λt h=>h) aae,bT];simp
   by_cases z:gL k=true
   ·rw[bX z]
    have I:b+qB k=b+1:=by unfold qB;rw[bX z]
    rw[I] at fin|-;rw[cX cw cw];exact fin
   ·rw[bV z]
    have I:b+qB k=b:=by unfold qB;rw[bV z];omega
    rw[I] at fin|-;exact fin
def Fm.Ln(f c:Int):∀(g:Fm) (b:Int),g.A8 (λt b=>t.up (f+b) c) b=g.up (f+b) c:=by
 intro g
 induction g using Fm.ind with
 |h k s ts l a=>
  intro b;rw[Fm.wC,Fm.fx]
  congr 1
  exact qg λx d=>by rw[a x d (b+qB k),show f+(b+qB k)=f+b+qB k by omega]
def jU{g:Fm}{f c:Int}(d:g.ok=true)(hn:g.acJ<=50000000)(e:g.acN 1000000000000=true)(m:0<=f)(i:f<=1000000000)(j:0<=c)(a:c<=10000000000):c_ g f c=some (g.up f c):=by
 unfold c_;rw[me (h:=λk l=>kA k l f c) (ψ:=λt b=>t.up (f+b) c) (λt b h n o=>?_) FU g 0 (by have:=cV;omega) hn d e cw cw]
 ·rw[bW,Fm.Ln f c g 0,show f+0=f by omega]
 ·unfold kA;rw[cX cw cw,AR h cw cw j a];rfl
def Tm.Ls{i:Int}{s:Ty}{l:List Tm}(a:(Tm.mk 1 i s l).ok=true):l=[]/\s=.mk 0 []:=by
 have hi:=Tm.jg a;constructor
 ·have:=hi.2.2.2.2;unfold eF at this;rw[bX (.inl rfl)] at this;exact yD cw
 ·rw[Tm.eo] at a;simp only[Tm.node,ed] at a;have:=a.1.2;rw[bV gw] at this;exact(Ty.iI s).1 this
def L2(a:Int)(s:Tm)(i b:Int):Tm:=if i-b=a then s.up 0 (a+b)else if a<i-b then .mk 1 (i-1) (.mk 0 []) [] else .mk 1 i (.mk 0 []) []
def Tm.H_(a:Int)(s:Tm):∀(t:Tm) (b:Int),t.ok=true->t.A8 (L2 a s) b=Tm.e_ (a+b) t s:=by
 intro t
 induction t using Tm.ind with
 |h k i ty l j=>
  intro b d;have hi:=Tm.jg d;rw[Tm.wC,Tm.fB]
  by_cases c:k=1
  ·subst c;obtain⟨rfl,rfl⟩:=Tm.Ls d;rw[bX rfl,bX rfl];unfold L2 Tm.mW
   by_cases e:i-b=a
   ·rw[bX e,bX cw]
   ·rw[bV e,bV (show¬i=a+b by omega)]
    by_cases f:a<i-b
    ·rw[bX f,bX cw]
    ·rw[bV f,bV cw]
  ·rw[bV c,bV c]
   congr 1
   exact qg λx g=>by rw[j x g (b+dD k) (hi.2.2.2.1 x g),show a+(b+dD k)=a+b+dD k by omega]
def DV(s:Tm):Prop:=∀c,0<=c->c<=10000000000->pe s 0 c=some (s.up 0 c)
def Bd.lift{s:Tm}(h:Bd s):DV s:=λc a b=>AR h cw cw a b
def KF{t s:Tm}{a:Int}(h:Bd t)(hs:DV s)(K:0<=a)(D:a<=1000000000):Fc t a s=some (Tm.e_ a t s):=by
 unfold Fc mg;have hn:=h.acJ
 have key:∀(n:Nat) (t:Tm) (b:Int),t.acJ<=n->t.acJ<=50000000->t.ok=true->t.acN 1000000000000=true->0<=b->b+t.acJ<=1000000000->eP n t b (λ(f:Unit) (m:Int) (g:Int)=>mK (oS m g a s) f) ()=eP n t b (λ(f:Unit) (m:Int) (g:Int)=>mK (if g<=1000000000 then oS m g a s else some (L2 a s m g)) f) ():=by
  intro n
  induction n with
  |zero=>intro t b h;have:=t.cu;omega
  |succ n E=>
   intro t b hn r F C G y;cases t with
   |mk k i ty l=>
    rw[Tm.bY] at hn r y;rw[Tm.dn,ed,K0,ie] at C;have hi:=Tm.jg F;have H:=gi k;rw[eP,eP]
    by_cases z:k=1
    ·subst z;rw[bX aal,bX aal,bX cw]
    ·rw[bV (by simpa[cr] using z),bV (by simpa[cr] using z)];simp only[Tm.cT,Tm.ck,Tm.cx,Tm.dK,cc];rw[vd k b cw cw]
     have loop:∀(ts:List Tm) (j:Nat) (v:List Tm),(∀t∈ts,t∈l)->cY (λ(A:Int) (p:Tm)=>(rD λ(d:List Tm) (v107:Unit)=>
        b8 (eP n p (b+dD k) (λ(f:Unit) (m:Int) (g:Int)=>mK (oS m g a s) f) v107) λe o=>
        ef (dP d [e])<|some ((.next ((dN d [e]),o)):dJ ((List Tm)×Unit) (Tm×Unit)))) ts j (v,())=cY (λ(A:Int) (p:Tm)=>(rD λ(d:List Tm) (v107:Unit)=>
        b8 (eP n p (b+dD k) (λ(f:Unit) (m:Int) (g:Int)=>mK (if g<=1000000000 then oS m g a s else some (L2 a s m g)) f) v107) λe o=>
        ef (dP d [e])<|some ((.next ((dN d [e]),o)):dJ ((List Tm)×Unit) (Tm×Unit)))) ts j (v,()):=by
      intro ts
      induction ts with
      |nil=>intro j v _;rfl|cons t ts B=>
       intro j v hm;have q:=hm t th;have I:=cy Tm.acJ q;rw[cM,cM];simp only[rD];rw[E t (b+dD k) cw cw (hi.2.2.2.1 t q) (C.2 t q) cw cw]
       congr 1
       funext c
       cases c with
       |next st=>
        obtain⟨J,u⟩:=st;exact B (j+1) J (λu hu=>hm u (by simp[hu]))
       |_=>rfl
     rw[loop l 0 [] (λt h=>h)]
 rw[key FU t 0 (by have:=cV;omega) hn h.ok h.acN cw cw];rw[tG (h:=λm g=>if g<=1000000000 then oS m g a s else some (L2 a s m g)) (φ:=L2 a s) (M:=1000000000000) (λi b G L N O=>?_) FU t 0 (by have:=cV;omega) h.acJ h.ok h.acN cw cw]
 ·rw[bW,bW,Tm.H_ a s t 0 h.ok,show a+0=a by omega]
 ·by_cases r:b<=1000000000
  ·rw[bX r];unfold oS fk L2;rw[dh cw cw,cX cw cw]
   by_cases w:i-b=a
   ·rw[bX (by simpa[cr] using w),bX w,hs _ cw cw];rfl
   ·rw[bV (by simpa[cr] using w),bV w]
    by_cases x:a<i-b
    ·rw[bX (by rw[ep];exact x),bX x,dh cw cw];rfl
    ·rw[bV (by rw[ep];exact x),bV x];rfl
  ·rw[bV r]
def Fm.H_(a:Int)(s:Tm):∀(g:Fm) (b:Int),g.A8 (λt b=>Tm.e_ (a+b) t s) b=Fm.e_ (a+b) g s:=by
 intro g
 induction g using Fm.ind with
 |h k ty ts l c=>
  intro b;rw[Fm.wC,Fm.fB]
  congr 1
  exact qg λx d=>by rw[c x d (b+qB k),show a+(b+qB k)=a+b+qB k by omega]
def sW{g:Fm}{s:Tm}{a:Int}(B:g.ok=true)(hn:g.acJ<=50000000)(I:g.acN 1000000000000=true)(hs:DV s)(P:0<=a)(J:a<=100000000):kK g a s=some (Fm.e_ a g s):=by
 unfold kK
 have key:∀(n:Nat) (f:Fm) (b:Int),f.acJ<=n->f.acJ<=50000000->f.ok=true->0<=b->b+f.acJ<=100000000->cL n f b (λ(i:Unit) (p:Tm) (m:Int)=>mK (iG p m a s) i) ()=cL n f b (λ(i:Unit) (p:Tm) (m:Int)=>mK (if m<=100000000 then iG p m a s else some (Tm.e_ (a+m) p s)) i) ():=by
  intro n
  induction n with
  |zero=>intro f b h;have:=f.cu;omega
  |succ n K=>
   intro f b hn C B L E;cases f with
   |mk k ty ts l=>
    rw[Fm.bY] at hn C E;obtain⟨_,_,F⟩:=Fm.mz B;have M:=yP k;rw[cL,cL];simp only[Fm.cT,Fm.ck,Fm.cx,Fm.eI,cc,bX (show b<=100000000 by omega),jh,bT]
    have loop:∀(us:List Fm) (j:Nat) (v:List Fm) (x:Int),0<=x->x+cn Fm.acJ l<=100000000->(∀t∈us,t∈l)->cY (λ(y:Int) (q:Fm)=>(rD λ(d:List Fm) (v212:Unit)=>
       b8 (cL n q x (λ(i:Unit) (p:Tm) (m:Int)=>mK (iG p m a s) i) v212) λe w=>
       ef (dP d [e])<|some ((.next ((dN d [e]),w)):dJ ((List Fm)×Unit) (Fm×Unit)))) us j (v,())=cY (λ(y:Int) (q:Fm)=>(rD λ(d:List Fm) (v212:Unit)=>
       b8 (cL n q x (λ(i:Unit) (p:Tm) (m:Int)=>mK (if m<=100000000 then iG p m a s else some (Tm.e_ (a+m) p s)) i) v212) λe w=>
       ef (dP d [e])<|some ((.next ((dN d [e]),w)):dJ ((List Fm)×Unit) (Fm×Unit)))) us j (v,()):=by
     intro us
     induction us with
     |nil=>intro j v x _ _ _;rfl|cons t us G=>
      intro j v x z H hm;have A:=hm t th;have N:=cy Fm.acJ A;rw[cM,cM];simp only[rD];rw[K t x cw cw (F t A) z cw]
      congr 1
      funext c
      cases c with
      |next st=>
       obtain⟨O,u⟩:=st;exact G (j+1) O x z H (λu hu=>hm u (by simp[hu]))
      |_=>rfl
    congr 1
    funext Q
    congr 1
    congr 1
    funext o
    cases o with
    |inr r=>rfl|inl st=>
     obtain⟨v,u⟩:=st;simp only[b9,rD]
     by_cases D:gL k=true
     ·rw[bX D,bX D,cX cw cw];rw[show(([]:List Fm),u)=([],())from rfl,loop l 0 [] (b+1) cw cw (λt h=>h)]
     ·rw[bV D,bV D];rw[show(([]:List Fm),u)=([],())from rfl,loop l 0 [] b cw cw (λt h=>h)]
 rw[key FU g 0 (by have:=cV;omega) hn B cw cw];rw[me (h:=λp m=>if m<=100000000 then iG p m a s else some (Tm.e_ (a+m) p s)) (ψ:=λt b=>Tm.e_ (a+b) t s) (λt b h L R=>?_) FU g 0 (by have:=cV;omega) hn B I cw cw]
 ·rw[bW,Fm.H_ a s g 0,show a+0=a by omega]
 ·by_cases C:b<=100000000
  ·rw[bX C];unfold iG;rw[cX cw cw,KF h hs cw cw];rfl
  ·rw[bV C]
def CR{a i b c:Int}(d:-1000000000000000<=i)(e:i<=1000000000000000)(f:0<=b)(g:b<=10000000000)(j:0<=c)(k:c<=10000000000):mr i b a c=some (c+if i-b=a then 1 else 0):=by
 unfold mr;rw[dh cw cw]
 by_cases h:i-b=a
 ·rw[bX (by simpa[cr] using h),bX h,cX cw cw]
 ·rw[bV (by simpa[cr] using h),bV h,wV]
def Df(a:Int):∀(n:Nat) (t:Tm) (b c:Int),t.acJ<=n->t.acJ<=50000000->t.ok=true->t.acN 1000000000000=true->0<=b->b+t.acJ<=1000000000->0<=c->c+t.acJ<=1000000000->fD n t b (λ(s:Int) (f:Int) (g:Int)=>mr f g a s) c=some (c+(t.acP (a+b):Int)):=by
 intro n
 induction n with
 |zero=>intro t b c h;have:=t.cu;omega
 |succ n y=>
  intro t b c hn z A w B m x C;cases t with
  |mk k i s l=>
   rw[Tm.bY] at hn z m C;have hlen:=Tm.dm l;have hi:=Tm.jg A;rw[Tm.dn,ed,K0,ie] at w;have D:=gi k;rw[fD,Tm.ee];simp only[cc]
   have loop:∀(ts:List Tm) (j:Nat) (v:Int),(∀t∈ts,t∈l)->0<=v->v+cn Tm.acJ ts<=1000000000->cY (λ(E:Int) (o:Tm)=>(λ(v28:Int)=>
      bU (fD n o (b+dD k) (λ(s:Int) (f:Int) (g:Int)=>mr f g a s) v28) λp=>
      some ((.next p):dJ Int Int))) ts j v=some (.inl (v+(cn (Tm.acP (a+b+dD k)) ts:Int))):=by
    intro ts
    induction ts with
    |nil=>intro j v _ _ _;simp[cn]|cons t ts q=>
     intro j v hm v0 v1;simp only[cn] at v1|-;have d:=hm t th;have F:=cy Tm.acJ d;have G:=t.fZ (a+b+dD k);rw[cM,y t (b+dD k) v cw cw (hi.2.2.2.1 t d) (w.2 t d) cw cw v0 cw,show a+(b+dD k)=a+b+dD k by omega];simp only[bT,cS];rw[q (j+1) _ (λu hu=>hm u (by simp[hu])) cw cw]
     congr 2
     push_cast
     omega
   by_cases r:k=1
   ·subst r;rw[bX (show cr (Tm.mk 1 i s l).acH 1=true from rfl)];simp only[Tm.ck,Tm.cx,Tm.dK];rw[CR cw cw B cw x cw,bT,vd 1 b cw cw,ch cw,b6];rw[loop l 0 _ (λt h=>h) (by split<;>omega) (by split<;>omega)];simp only[bT,b9]
    congr 1
    by_cases e:i-b=a
    ·rw[bX e,bX (show True/\i=a+b from⟨trivial,cw⟩)];omega
    ·rw[bV e,bV (show¬(True/\i=a+b)fromλh=>e cw)];omega
   ·rw[bV (show¬cr (Tm.mk k i s l).acH 1=true by simpa[cr] using r),bV (show¬(k=1/\i=a+b)fromλh=>r h.1)];simp only[Tm.ck,Tm.cx,Tm.dK];rw[vd k b cw cw,ch cw,b6];rw[loop l 0 c (λt h=>h) x cw];simp only[bT,b9]
    congr 1
    push_cast
    omega
def yW{t:Tm}(a:Int)(h:Bd t):qt t a=some (t.acP a:Int):=by
 unfold qt og;have hn:=h.acJ;rw[Df a FU t 0 0 (by have:=cV;omega) hn h.ok h.acN cw cw cw cw];simp only[bT];rw[show a+0=a by omega,Int.zero_add]
def yw{a:Int}(U:0<=a)(H:a<=100000000):∀(n:Nat) (f:Fm) (b c:Int),f.acJ<=n->f.acJ<=50000000->f.ok=true->f.acN 1000000000000=true->0<=b->b+f.acJ<=100000000->0<=c->c+f.acJ<=1000000000->gA n f b (λ(s:Int) (p:Tm) (q:Int)=>jS p q s a) c=some (c+(f.acP (a+b):Int)):=by
 intro n
 induction n with
 |zero=>intro f b c h;have:=f.cu;omega
 |succ n I=>
  intro f b c hn J K r V w L M;cases f with
  |mk k s ts l=>
   rw[Fm.bY] at hn J w M;have N:=eB Tm.acJ ts λt _=>t.cu;have O:=eB Fm.acJ l λt _=>t.cu;obtain⟨_,y,z⟩:=Fm.mz K;rw[Fm.dn,ed,ie,ie] at r;have P:=yP k;rw[gA,Fm.ee];simp only[Fm.ck,Fm.cx,Fm.eI,cc];rw[ch cw,b6]
   have i:∀(us:List Tm) (j:Nat) (v:Int),(∀t∈us,t∈ts)->0<=v->v+cn Tm.acJ us<=1000000000->cY (λ(Q:Int) (A:Tm)=>(λ(B:Int)=>
      bU (jS A b B a) λC=>
      some ((.next C):dJ Int Int))) us j v=some (.inl (v+(cn (Tm.acP (a+b)) us:Int))):=by
    intro us
    induction us with
    |nil=>intro j v _ _ _;simp[cn]|cons t us e=>
     intro j v hm v0 v1;simp only[cn] at v1|-;have d:=hm t th;have D:=cy Tm.acJ d;have R:=t.fZ (a+b);rw[cM];unfold jS at e|-;rw[cX (a:=a) cw cw,yW (a+b) ⟨y t d,r.1 t d,cw⟩];simp only[bT,cS];rw[cX cw cw];have:=e (j+1) (v+(t.acP (a+b):Int)) (λu hu=>hm u (by simp[hu])) cw cw;rw[cX (a:=a) cw cw] at this;rw[this]
     congr 2
     push_cast
     omega
   rw[i ts 0 c (λt h=>h) L cw];have S:=iu (f:=Tm.acP (a+b)) (g:=Tm.acJ) (l:=ts) λx _=>x.fZ _;simp only[bT,b9];rw[jh,bT]
   have m:∀(us:List Fm) (j:Nat) (v:Int),(∀t∈us,t∈l)->0<=v->v+cn Fm.acJ us<=1000000000->cY (λ(T:Int) (E:Fm)=>(λ(v72:Int)=>
      bU (gA n E (b+qB k) (λ(s:Int) (p:Tm) (q:Int)=>jS p q s a) v72) λF=>
      some ((.next F):dJ Int Int))) us j v=some (.inl (v+(cn (Fm.acP (a+b+qB k)) us:Int))):=by
    intro us
    induction us with
    |nil=>intro j v _ _ _;simp[cn]|cons t us e=>
     intro j v hm v0 v1;simp only[cn] at v1|-;have d:=hm t th;have D:=cy Fm.acJ d;have R:=t.fZ (a+b+qB k);rw[cM,I t (b+qB k) v cw cw (z t d) (r.2 t d) cw cw v0 cw,show a+(b+qB k)=a+b+qB k by omega];simp only[bT,cS];rw[e (j+1) _ (λu hu=>hm u (by simp[hu])) cw cw]
     congr 2
     push_cast
     omega
   have fin:=m l 0 (c+(cn (Tm.acP (a+b)) ts:Int)) (λt h=>h) cw cw
   by_cases o:gL k=true
   ·rw[bX o]
    have G:qB k=1:=by unfold qB;rw[bX o]
    rw[G] at fin|-;rw[cX cw cw,ch cw,b6,fin];simp only[bT,b9]
    congr 1
    push_cast
    omega
   ·rw[bV o]
    have G:qB k=0:=by unfold qB;rw[bV o]
    rw[G] at fin|-;rw[wV b] at fin;rw[ch cw,b6,fin];simp only[bT,b9]
    congr 1
    push_cast
    omega
def nO{f:Fm}{a:Int}(c:f.ok=true)(hn:f.acJ<=50000000)(d:f.acN 1000000000000=true)(e:0<=a)(b:a<=100000000):kY f a=some (f.acP a:Int):=by
 unfold kY;rw[yw e b FU f 0 0 (by have:=cV;omega) hn c d cw cw cw cw];simp only[bT];rw[show a+0=a by omega,Int.zero_add]
noncomputable def lr (f:Fm) (t:Tm):Fm×Int:=if 4096<(Fm.e_ 0 f t).acJ then(.mk 0 (.mk 0 []) [] [],4)else(Fm.e_ 0 f t,0)
noncomputable def Cq (f:Fm) (g:List Ty):Int:=if uA g≠0 then uA g else if f.err≠0 then f.err else f.ta g
def fQ.of{g:List Ty}(h:uA g=0):fQ g/\g.length<=16:=by
 unfold uA at h
 split at h
 ·cases h
 ·rename_i d;refine⟨λs hs=>?_,cw⟩
  have key:∀l:List Ty,dp (l.map Ty.err)=0->∀s∈l,s.err=0:=by
   intro l
   induction l with
   |nil=>intro _ s hs;cases hs
   |cons a l c=>
    intro h s hs;simp only[mL,dp] at h
    by_cases b:a.err=0
    ·rw[bX b] at h;rcases jA.1 hs with rfl|hs
     ·exact b
     ·exact c h s hs
    ·rw[bV b] at h;exact absurd h b
  exact key g h s hs
def tw{g:List Ty}(hg:fQ g)(c:g.length<=1000000):pA g=some (g.map qw):=by
 unfold pA;simp only[cc]
 rw[ch cw,b6,gG qw g 0 [] aae (λj x v a b=>by
  rw[jj (hg x a),bT,dc (by simpa using b),b6,ei])]
 simp
def vu{f:Fm}{g:List Ty}(hw:f.wt<=1000000000)(c:g.length<=1000000)(h:∀t∈g,t.acJ<=1000000000):oy g f=some (Cq f g):=by
 unfold oy Cq;rw[u9 g c h,bT]
 by_cases a:uA g=0
 ·rw[bV (by rw[cg];simpa using a),bV (by simpa using a),er hw,bT]
  by_cases he:f.err=0
  ·obtain⟨hg,d⟩:=fQ.of a;obtain⟨b,hn⟩:=Fm.ea he;rw[bV (by rw[cg];simpa using he),bV (by simpa using he),tw hg c,bT,ud f b FU (by have:=cV;omega) g hg cw hn];rfl
  ·rw[bX (by rw[cg];exact he),bX he]
 ·rw[bX (by rw[cg];exact a),bX a]
def pT{f:Fm}{g:List Ty}(hw:f.wt<=1000000000)(c:g.length<=1000000)(h:∀t∈g,t.acJ<=1000000000):gP g f=some (Cq f g):=by
 unfold gP iL Cq;rw[qv g c h,bT]
 by_cases a:uA g=0
 ·rw[bV (by rw[cg];simpa using a),bV (by simpa using a),iA hw,bT]
  by_cases he:f.err=0
  ·obtain⟨hg,d⟩:=fQ.of a;obtain⟨b,hn⟩:=Fm.ea he;rw[bV (by rw[cg];simpa using he),bV (by simpa using he),xO f b FU (by have:=cV;omega) g hg cw hn];rfl
  ·rw[bX (by rw[cg];exact he),bX he];rfl
 ·rw[bX (by rw[cg];exact a),bX a]
def FP{f:Fm}{t:Tm}(he:f.err=0)(b:t.err=0)(g:f.acN 1000000000000=true)(d:t.acN 1000000000000=true):gI f t=some (lr f t):=by
 obtain⟨a,hn⟩:=Fm.ea he;obtain⟨c,e⟩:=Tm.ea b;have hw:=f.eO a;have j:=t.eO c;have n:=t.cu;have k:=f.fZ 0;have l:=Fm.pB t f 0 a;unfold gI lr;rw[e9 cw,bW,pM cw,bW,nO a cw g cw cw,bT,bX he,bX b];rw[dh cw cw]
 have hmul:(f.acP 0:Int)*((t.acJ:Int)-1)=((f.acP 0*t.acJ:Nat):Int)-(f.acP 0:Int):=by rw[Sy,SH];push_cast;rfl
 have m:f.acP 0*t.acJ<=4096*4096:=CP cw e;have h:f.acP 0<=f.acP 0*t.acJ:=UP _ cw;rw[yo (by rw[hmul];omega) (by rw[hmul];omega),hmul,cX cw cw]
 by_cases i:4096<(Fm.e_ 0 f t).acJ
 ·rw[bX (by rw[ep];omega),bX i]
 ·rw[bV (by rw[ep];omega),bV i,sW a cw g (Bd.lift ⟨c,d,cw⟩) cw cw];rfl
def Er{f:Fm}{s:Tm}(he:f.err=0)(b:s.err=0)(h:f.acN 536870912=true)(c:s.acN 536870912=true)(d:(Fm.e_ 0 f s).ok=true):va f 0 s=some (lr f s):=by
 obtain⟨a,hn⟩:=Fm.ea he;obtain⟨e,g⟩:=Tm.ea b;have hw:=f.eO a;have k:=s.eO e;have l:=s.cu;have m:=f.fZ 0;have n:=Fm.pB s f 0 a;unfold va lr;rw[iA cw,he];simp only[bT,cg,ne_eq,Su,fG,cc,j6,ep,jY,pE];rw[bV cw,lJ cw,b,xI FU f _ (by rw[cV];omega) cw,h,Aa _ cw,c];simp only[bT,Su,fG,if_true,Om,hZ];rw[lI FU f (by rw[cV];omega) cw,DO FU f 0 (by rw[cV];omega) cw cw cw,lQ FU s (by rw[cV];omega) cw];simp only[bT];rw[dh cw cw]
 have hmul:(f.acP 0:Int)*((s.acJ:Int)-1)=((f.acP 0*s.acJ:Nat):Int)-(f.acP 0:Int):=by rw[Sy,SH];push_cast;rfl
 have o:f.acP 0*s.acJ<=4096*4096:=CP cw g;have i:f.acP 0<=f.acP 0*s.acJ:=UP _ cw;rw[yo (by rw[hmul];omega) (by rw[hmul];omega),hmul,cX cw cw]
 by_cases j:4096<(Fm.e_ 0 f s).acJ
 ·rw[bX cw,bX j]
 ·rw[bV cw,bV j,J5 FU f 0 0 s (by rw[cV];omega) cw cw cw cw (Fm.iB f cw h) a cw (Tm.iB s cw c)];simp only[bT,wV];have p:=Fm.eO _ d;rw[nj cw];rfl
def yi{α:Type}{E:α->α->Option Bool}{m l:List α}(hlen:l.length=m.length)(h:∀x∈l,∀y,∃r,E x y=some r/\(r=true↔x=y)):∃o:Unit⊕Bool,cY (λ(j:Int) (x:α) (_:Unit)=>bU (cq m j) λy=>bU (E x y) λz=>if z then(some (dJ.next ()):Option (dJ Unit Bool))else some (dJ.ret false)) l 0 ()=some o/\(o=.inl ()/\l=m\/o=.inr false/\l≠m):=by
 let p:α->α->Bool:=λx y=>(E x y).getD false
 have c:∀x∈l,∀y,E x y=some (p x y)/\(p x y=true↔x=y):=by
  intro x a y;obtain⟨r,d,b⟩:=h x a y
  have e:p x y=r:=by show(E x y).getD false=r;rw[d];rfl
  rw[e];exact⟨d,b⟩
 have key:=vq (F:=λ(j:Int) (x:α) (_:Unit)=>bU (cq m j) λy=>bU (E x y) λz=>if z then some (dJ.next ())else some (dJ.ret false)) p m l 0 m rfl hlen (by
  intro k x y a hy;rw[gu,hy];simp only[bT];rw[(c x a y).1]
  rfl)
 have he:=vh p l m λx a y=>(c x a y).2;rw[key];cases b:tc p l m with
 |false=>rw[b] at he;exact⟨_,rfl,.inr ⟨rfl,λe=>absurd (he.2 e) th⟩⟩
 |true=>rw[b] at he;exact⟨_,rfl,.inl ⟨rfl,he.1 rfl⟩⟩
def yA:∀(n:Nat) (a b:Fm),a.wt<=n->a.wt<=1000000000->∃r,iZ n a b=some r/\(r=true↔a=b):=by
 intro n
 induction n with
 |zero=>intro t b h;have:=t.gK;omega
 |succ n q=>
  intro a b h u;cases a with
  |mk k s ts l=>
  cases b with
  |mk k' f us m=>
   rw[Fm.fo] at h u;have B:=Fm.mh l;have v:=Tm.mh ts;rw[iZ];simp only[Fm.ck,Fm.cx,Fm.eI,Fm.cT,cc,ch (l:=l) cw,ch (l:=ts) cw,b6,cg,dE]
   have no:¬(k=k'/\s=f/\ts=us/\l=m)->∃r,some false=some r/\(r=true↔Fm.mk k s ts l=Fm.mk k' f us m):=by
    intro hn;refine⟨false,rfl,?_⟩;simp only[hZ,Ho,Fm.mk.injEq];exact hn
   by_cases d:k≠k'
   ·rw[bX d,bX trivial];exact no λh=>d h.1
   ·rw[bV d];obtain⟨r,w,p⟩:=vr FU s f (by rw[cV];omega) cw;rw[w];simp only[bT]
    by_cases e:r=true
    ·have hs:=p.1 e;rw[bX e]
     by_cases g:(ts.length:Int)≠us.length
     ·rw[bX g,bX trivial];exact no λh=>g (by rw[h.2.2.1])
     ·rw[bV g]
      by_cases hm:(l.length:Int)≠m.length
      ·rw[bX hm];exact no λh=>hm (by rw[h.2.2.2])
      ·rw[bV hm];obtain⟨o,z,k2⟩:=yi (E:=λx y=>gB FU x y) (l:=ts) (m:=us) cw (λx c y=>uN FU x y (by have:=cy Tm.wt c;rw[cV];omega) (by have:=cy Tm.wt c;omega));rw[z];rcases k2 with⟨rfl,i⟩|⟨rfl,i⟩
       ·simp only[bT,b9];obtain⟨o,q1,A⟩:=yi (E:=λx y=>iZ n x y) (l:=l) (m:=m) cw (λx c y=>q x y (by have:=cy Fm.wt c;omega) (by have:=cy Fm.wt c;omega));rw[q1];rcases A with⟨rfl,j⟩|⟨rfl,j⟩
        ·exact⟨true,rfl,by simp only[Td,Fm.mk.injEq];exact⟨uu.1 d,hs,i,j⟩⟩
        ·exact no λh=>j h.2.2.2
       ·exact no λh=>i h.2.2.1
    ·rw[bV e,bX trivial];exact no λh=>e (p.2 h.2.1)
def Gz:∀(n:Nat) (a b:Fm),a.wt<=n->a.wt<=1000000000->∃r,nF n a b=some r/\(r=true↔a=b):=by
 intro n
 induction n with
 |zero=>intro t b h;have:=t.gK;omega
 |succ n u=>
  intro a b h v;cases a with
  |mk k s ts l=>
  cases b with
  |mk k' i us m=>
   rw[Fm.fo] at h v;have C:=Fm.mh l;have w:=Tm.mh ts;rw[nF];simp only[Fm.ck,Fm.cx,Fm.eI,Fm.cT,cc,ch (l:=l) cw,b6,cg,dE]
   have no:¬(k=k'/\s=i/\ts=us/\l=m)->∃r,some false=some r/\(r=true↔Fm.mk k s ts l=Fm.mk k' i us m):=by
    intro hn;refine⟨false,rfl,?_⟩;simp only[hZ,Ho,Fm.mk.injEq];exact hn
   have c:∃r,oI ts us=some r/\(r=true↔ts=us):=by
    unfold oI;simp only[cg,dE,cc,ch (l:=ts) cw,b6]
    by_cases d:(ts.length:Int)≠us.length
    ·rw[bX d];exact⟨false,rfl,by simp only[hZ,Ho];rintro rfl;exact d rfl⟩
    ·rw[bV d];obtain⟨o,z,k2⟩:=yi (E:=λx y=>ir FU x y) (l:=ts) (m:=us) cw (λx e y=>yQ FU x y (by have:=cy Tm.wt e;rw[cV];omega) (by have:=cy Tm.wt e;omega));rw[z];rcases k2 with⟨rfl,j⟩|⟨rfl,j⟩
     ·exact⟨true,rfl,by simpa using j⟩
     ·exact⟨false,rfl,by simpa using j⟩
   by_cases f:k≠k'
   ·rw[bX f,bX trivial];exact no λh=>f h.1
   ·rw[bV f,fU cw];simp only[bT]
    by_cases g:s.iY i=true
    ·have hs:=(Ty.iJ _ _).1 g;obtain⟨r,A,q⟩:=c;rw[bX g,A];simp only[bT]
     by_cases d:r=true
     ·rw[bX d]
      by_cases hm:(l.length:Int)≠m.length
      ·rw[bX hm];exact no λh=>hm (by rw[h.2.2.2])
      ·rw[bV hm];obtain⟨o,q1,B⟩:=yi (E:=λx y=>nF n x y) (l:=l) (m:=m) cw (λx e y=>u x y (by have:=cy Fm.wt e;omega) (by have:=cy Fm.wt e;omega));rw[q1];rcases B with⟨rfl,p⟩|⟨rfl,p⟩
       ·exact⟨true,rfl,by simp only[Td,Fm.mk.injEq];exact⟨uu.1 f,hs,q.1 d,p⟩⟩
       ·exact no λh=>p h.2.2.2
     ·rw[bV d,bX trivial];exact no λh=>d (q.2 h.2.2.1)
    ·rw[bV g,bX trivial];exact no λh=>g ((Ty.iJ _ _).2 h.2.1)
def Dm(l:List Ty)(t:Tm):Tm:=l.foldr (λs b=>.mk 2 0 s [b]) t
def PY{l:List Ty}(n:l.length<=1000):∀(i m:Nat) (t:Tm),i<=l.length->i<m->mJ ((Ph λ(b:Int) (c:Int) (v59:Int) (d:Int) (e:List Ty) (f:List Tm)=>
   if(qf b 0) then(
   bU (cq l b) λg=>
   some (.next ((di .i64 b 1),2,0,g.acH,g.acI,[(Tm.mk c v59 (Ty.mk d e) f)])))
   else(some (.Fy (b,c,v59,d,e,f)))):(Int×Int×Int×Int×(List Ty)×(List Tm))->(Option (dJ (Int×Int×Int×Int×(List Ty)×(List Tm)) (Tm)))) m ((i:Int)-1,t.acH,t.acK,t.b7.acH,t.b7.acI,t.acI)=some (.inl (-1,(Dm (l.take i) t).acH,(Dm (l.take i) t).acK,(Dm (l.take i) t).b7.acH,(Dm (l.take i) t).b7.acI,(Dm (l.take i) t).acI))
 |0,m+1,t,_,_=>by
  rw[lv];simp only[Ph];rw[bV (by rw[fF];omega)];rfl
 |i+1,m+1,t,hi,hm=>by
  rw[lv];simp only[Ph];rw[bX (by rw[fF];omega),show((i+1:Nat):Int)-1=(i:Int) by omega,gu,lV cw];simp only[bT,cS];rw[dh cw cw]
  have p:Ty.mk (l[i]).acH (l[i]).acI=l[i]:=by cases l[i];rfl
  have o:Tm.mk t.acH t.acK (Ty.mk t.b7.acH t.b7.acI) t.acI=t:=by cases t with|mk k j s a=>cases s;rfl
  have h:=PY n i m (.mk 2 0 l[i] [t]) cw cw;rw[o];refine h.trans ?_;rw[Wx,lV cw];simp only[Dm,YO,Y8,List.foldr_cons,List.foldr_nil]
def xl(t:Tm)(l:List Ty)(b:l.length<=1000):sF t l=some (Dm l t):=by
 unfold sF;simp only[cc];rw[dE,dh cw cw];have h:=PY b l.length FU t (fC _) (Ul cw);rw[h,bT,List.take_length];generalize Dm l t=r;cases r with|mk k j s a=>cases s;rfl
def Ag(t a:Tm):qe t [a]=some (.mk 3 0 (.mk 0 []) [t,a]):=by cases t with|mk k j s l=>cases s;rfl
def Ht(t a b:Tm):qe t [a,b]=some (.mk 3 0 (.mk 0 []) [.mk 3 0 (.mk 0 []) [t,a],b]):=by cases t with|mk k j s l=>cases s;rfl
def Up:Tm:=Dm [.nat] (.mk 6 0 .nat [.mk 4 0 (.mk 0 []) [],Dm [.nat,.nat] (.mk 1 1 (.mk 0 []) []),.mk 1 0 (.mk 0 []) []])
def FK:ss=some Up:=by
 unfold ss kM oL fk xB;simp only[tL,bT,xl _ _ (show[Ty.nat,Ty.nat].length<=1000 by decide),xl _ _ (show[Ty.nat].length<=1000 by decide)];rfl
def Zx:Tm:=Dm [.nat,.nat] (.mk 6 0 .nat [.mk 1 1 (.mk 0 []) [],Dm [.nat,.nat] (.mk 3 0 (.mk 0 []) [Up,.mk 1 0 (.mk 0 []) []]),.mk 1 0 (.mk 0 []) []])
def Iv:uT=some Zx:=by
 unfold uT kM x' fk xB;simp only[FK,tL,bT,Ag,xl _ _ (show[Ty.nat,Ty.nat].length<=1000 by decide)];rfl
def TN(a b:Tm):Fm:=.mk 1 (.mk 0 []) [.mk 3 0 (.mk 0 []) [.mk 3 0 (.mk 0 []) [Zx,.mk 5 0 (.mk 0 []) [a]],b],.mk 4 0 (.mk 0 []) []] []
def FV(a b:Tm):sw a b=some (TN a b):=by
 unfold sw oL ox;simp only[Iv,bT,Ht];rfl
def QY:∀x y:Fin 8,∃z:Fin 8,lX .u8 (x:Nat) (y:Nat)=(z:Nat)/\((z:Nat)%2=1↔(x:Nat)%2=1/\(y:Nat)%2=1):=gw
def To:∀x y:Fin 8,∃z:Fin 8,tZ .u8 (x:Nat) (y:Nat)=(z:Nat)/\((z:Nat)%2=1↔(x:Nat)%2=1\/(y:Nat)%2=1):=gw
def Mk(b:Bool)(m:Int):Prop:=∃x:Fin 8,m=((x:Nat):Int)/\((x:Nat)%2=1↔b=true)
def Mk.and{a b:Bool}{x y:Int}(c:Mk a x)(hy:Mk b y):Mk (a&&b) (lX .u8 x y):=by
 obtain⟨x,rfl,d⟩:=c;obtain⟨y,rfl,e⟩:=hy;obtain⟨z,f,g⟩:=QY x y;exact⟨z,f,by rw[g,d,e,ed]⟩
def Mk.or{a b:Bool}{x y:Int}(c:Mk a x)(hy:Mk b y):Mk (a||b) (tZ .u8 x y):=by
 obtain⟨x,rfl,d⟩:=c;obtain⟨y,rfl,e⟩:=hy;obtain⟨z,f,g⟩:=To x y;exact⟨z,f,by rw[g,d,e,pE]⟩
def Mk.one:Mk true 1:=⟨1,rfl,gw⟩
def Mk.six:Mk false 6:=⟨6,rfl,gw⟩
def Mk.four:Mk false 4:=⟨4,rfl,gw⟩
def Mk.bit{b:Bool}{m:Int}(h:Mk b m):cG (lX .u8 m 1) 0=b:=by
 obtain⟨x,rfl,a⟩:=h
 have key:∀x:Fin 8,cG (lX .u8 ((x:Nat):Int) 1) 0=decide ((x:Nat)%2=1):=gw
 rw[key x];cases b with
 |false=>exact AN (λh=>by have:=a.1 h;cases this)
 |true=>exact r9 (a.2 rfl)
def Fm.Vb{a:Fm}(d:a.ok=true)(c:a.acH=2\/a.acH=3):∃p q,a=.mk a.acH (.mk 0 []) [] [p,q]/\p.ok=true/\q.ok=true:=by
 refine Fm.kV (p:=λa=>a.acH=2\/a.acH=3->∃p q,a=.mk a.acH (.mk 0 []) [] [p,q]/\p.ok=true/\q.ok=true) ?_ ?_ ?_ a d c
 ·intro a b _ _ h;rcases h with h|h<;>cases h
 ·intro k a b _ e f _ _ _;exact⟨a,b,rfl,e,f⟩
 ·intro k s a c _ _ _ h;have h:k=2\/k=3:=h;omega
def Fm.YV{a:Fm}(d:a.ok=true)(e:a.acH=1):∃u v,a=.mk 1 (.mk 0 []) [u,v] []/\u.ok=true/\v.ok=true:=by
 refine Fm.kV (p:=λa=>a.acH=1->∃u v,a=.mk 1 (.mk 0 []) [u,v] []/\u.ok=true/\v.ok=true) ?_ ?_ ?_ a d e
 ·intro a b f g _;exact⟨a,b,rfl,f,g⟩
 ·intro k a b c _ _ _ _ h;have h:k=1:=h;omega
 ·intro k s a c _ _ _ h;have h:k=1:=h;omega
def Tm.Vu{a:Tm}(e:a.ok=true)(f:a.acH=3):∃c d,a=.mk 3 0 .z [c,d]/\c.ok=true/\d.ok=true:=by
 refine Tm.kV (p:=λa=>a.acH=3->∃c d,a=.mk 3 0 .z [c,d]/\c.ok=true/\d.ok=true) ?_ ?_ ?_ ?_ ?_ ?_ ?_ ?_ ?_ ?_ ?_ ?_ ?_ a e f
 case refine_3=>intro a b g i _;exact⟨a,b,rfl,g,i⟩
 all_goals(intros;rename_i h;cases h)
def xo{k:Int}{s:Ty}{a:Fm}(R:(Fm.mk k s [] [a]).ok=true)(hn:(Fm.mk k s [] [a]).acJ<=1000000)(I:a.acN 1000000000000=true)(n:a.ok=true):∃b t q ok,rB (.mk k s [] [a])=some (b,t,q,ok)/\(ok=true->q.ok=true/\q.acJ<a.acJ/\q.acN 1000000000000=true):=by
 rw[Fm.bY] at hn;simp only[cn] at hn;have no:∃b t q ok,(some (false,(Tm.mk 0 0 (Ty.mk 0 []) []),(Fm.mk 0 (Ty.mk 0 []) [] []),false):Option (Bool×Tm×Fm×Bool))=some (b,t,q,ok)/\(ok=true->q.ok=true/\q.acJ<a.acJ/\q.acN 1000000000000=true):=⟨_,_,_,_,rfl,th⟩;unfold rB
 obtain⟨o,j,J,S⟩:∃o j,rv (cr (Fm.mk k s [] [a]).acH 4)=some (o,j)/\(j=2\/j=3):=by
  unfold rv
  split
  ·exact⟨_,_,rfl,.inr rfl⟩
  ·exact⟨_,_,rfl,.inl rfl⟩
 rw[J,bW];simp only[cc]
 by_cases E:cG (Fm.mk k s [] [a]).acH o=true
 ·rw[bX E,bX trivial];exact no
 rw[bV E]
 by_cases F:cG (Fm.mk k s [] [a]).b7.acH 1=true
 ·rw[bX F,bX trivial];exact no
 rw[bV F];simp only[Fm.ck,cD,fM,bT]
 by_cases c3:cG a.acH j=true
 ·rw[bX c3,bX trivial];exact no
 rw[bV c3]
 have w:a.acH=2\/a.acH=3:=by
  have:a.acH=j:=by simpa[cG] using c3
  omega
 obtain⟨p,q,e,G,K⟩:=Fm.Vb n w;have x:a.acI=[p,q]:=(congrArg Fm.acI e).trans rfl
 have L:a.acJ=1+p.acJ+q.acJ:=by rw[e,Fm.bY];simp[cn];omega
 have l:p.acN 1000000000000=true/\q.acN 1000000000000=true:=by
  have f:=I;rw[e,Fm.dn] at f;simp only[Ov,we,Gn,yH,ed] at f;exact f
 have M:=p.cu;rw[x];simp only[cD,dQ,fM,kx,bT]
 by_cases y:cG p.acH 1=true
 ·rw[bX y];exact no
 rw[bV y]
 have z:p.acH=1:=by simpa[cG] using y
 obtain⟨u,v,g,hu,T⟩:=Fm.YV G z;have A:p.cv=[u,v]:=(congrArg Fm.cv g).trans rfl
 have h:u.acN 1000000000000=true:=by
  have:=l.1;rw[g,Fm.dn] at this;simp only[we,ed] at this;exact this.1.1
 have N:p.acJ=1+u.acJ+v.acJ:=by rw[g,Fm.bY];simp[cn];omega
 rw[A];simp only[cD,fM,bT]
 by_cases c5:cG u.acH 3=true
 ·rw[bX c5,bX trivial];exact no
 rw[bV c5]
 have B:u.acH=3:=by simpa[cG] using c5
 obtain⟨c,d,i,U,O⟩:=Tm.Vu hu B;have C:u.acI=[c,d]:=(congrArg Tm.acI i).trans rfl
 have P:u.acJ=1+c.acJ+d.acJ:=by rw[i,Tm.bY];simp[cn];omega
 have D:d.acN 1000000000000=true:=by
  rw[i,Tm.dn] at h;simp only[we,ed] at h;exact h.2.2.1
 rw[C];simp only[dQ,kx,fM,bT];rw[yW 0 ⟨O,D,cw⟩,bT];have yes:∃b t m ok,(some (cr (Fm.mk k s [] [a]).acH 4,d,q,true):Option (Bool×Tm×Fm×Bool))=some (b,t,m,ok)/\(ok=true->m.ok=true/\m.acJ<a.acJ/\m.acN 1000000000000=true):=⟨_,_,_,_,rfl,λ_=>⟨K,cw,l.2⟩⟩
 by_cases H:m8 (d.acP 0:Int) 0=true
 ·rw[bX H,bX trivial];exact no
 rw[bV H];have hw:=p.eO G;obtain⟨r,Q,_⟩:=yA FU p (TN (.mk 1 0 (.mk 0 []) []) d) (by rw[cV];omega) cw;rw[show fk 0=some (Tm.mk 1 0 (.mk 0 []) [])from rfl,bT,FV,bT,Q,bT];cases r with
 |true=>rw[show mq true=false from rfl,bV gw];exact yes|false=>rw[show mq false=true from rfl,bX rfl];exact no
def tP:∀(n:Nat) (f:Fm),f.acJ<=n->f.acJ<=1000000->f.ok=true->f.acN 1000000000000=true->∃m,jt n f=some m/\Mk f.has m:=by
 intro n
 induction n with
 |zero=>intro f h;have:=f.cu;omega
 |succ n w=>
  intro f hn e x c;refine Fm.kV (p:=λf=>f.acJ<=n+1->f.acJ<=1000000->f.ok=true->f.acN 1000000000000=true->∃m,jt (n+1) f=some m/\Mk f.has m) ?_ ?_ ?_ f x hn e x c
  ·intro a b _ _ _ _ _ _;rw[jt,bX aal];exact⟨6,rfl,by rw[Fm.has_eq];exact Mk.six⟩
  ·intro k a b y z B _ _ hn e _ c;rw[Fm.bY] at hn e;simp only[cn] at hn e;rw[Fm.dn] at c;simp only[Ov,we,Gn,yH,ed] at c;obtain⟨A,C,r⟩:=w a cw cw z c.1;obtain⟨j,D,u⟩:=w b cw cw B c.2
   have d:k≠1:=cw
   have E:dq (cr k 2) true (cr k 3)=true:=by rcases y with rfl|rfl<;>rfl
   rw[jt,bV (show¬cr (Fm.mk k (.mk 0 []) [] [a,b]).acH 1=true by simpa[cr] using d)]
   have F:cq [a,b] (di .i64 (cE [a,b]) 1)=some b:=by rw[dh th th];rfl
   simp only[Fm.ck,F,bT,D,cc];rw[bX (show dq (cr (Fm.mk k (.mk 0 []) [] [a,b]).acH 2) true (cr (Fm.mk k (.mk 0 []) [] [a,b]).acH 3)=true from E)];simp only[cD,fM,bT,C,Fm.cx];refine⟨_,rfl,?_⟩;rw[Fm.Nj,bV d];have l:=(r.and u).and Mk.six;rw[Bool.and_false] at l;rcases y with rfl|rfl
   ·rw[show dq (cr 2 2) (tZ .u8 j A) j=tZ .u8 j A from rfl];have g:=(u.or r).and Mk.one;rw[Gn] at g;have:=l.or g;rw[PK,Bool.or_comm] at this;simpa using this
   ·rw[show dq (cr 3 2) (tZ .u8 j A) j=j from rfl];have g:=u.and Mk.one;rw[Gn] at g;have:=l.or g;rw[PK] at this;simpa using this
  ·intro k s a y hs z _ hn e x c;have G:=e;rw[Fm.bY] at hn e;simp only[cn] at hn e;rw[Fm.dn] at c;simp only[Ov,we,Gn,yH] at c;obtain⟨A,C,r⟩:=w a cw cw z c
   have d:k≠1:=cw
   have E:dq (cr k 2) true (cr k 3)=false:=by rcases y with rfl|rfl|rfl|rfl<;>rfl
   rw[jt,bV (show¬cr (Fm.mk k s [] [a]).acH 1=true by simpa[cr] using d)]
   have F:cq [a] (di .i64 (cE [a]) 1)=some a:=by rw[dh th th];rfl
   simp only[Fm.ck,F,bT,C,cc];rw[bV (show¬dq (cr (Fm.mk k s [] [a]).acH 2) true (cr (Fm.mk k s [] [a]).acH 3)=true by rw[show dq (cr (Fm.mk k s [] [a]).acH 2) true (cr (Fm.mk k s [] [a]).acH 3)=false from E];decide)];obtain⟨b,t,q,ok,L,M⟩:=xo x G c z;rw[L]
   have fin:∀(v:Int) (K:Mk (Fm.mk k s [] [a]).has v),∃m,(KM (some (b,t,q,ok)) λN O H I=>if I then(bU (jt n H) λo=>some (tZ .u8 (lX .u8 v 1) (lX .u8 o 4)))else(some (lX .u8 v 1)))=some m/\Mk (Fm.mk k s [] [a]).has m:=by
    intro v K;show∃m,(if ok then(bU (jt n q) λo=>some (tZ .u8 (lX .u8 v 1) (lX .u8 o 4)))else(some (lX .u8 v 1)))=some m/\Mk (Fm.mk k s [] [a]).has m;have l:=K.and Mk.one;rw[Gn] at l;cases ok with
    |false=>exact⟨_,rfl,l⟩|true=>
     obtain⟨d1,d2,d3⟩:=M rfl;obtain⟨j,D,u⟩:=w q cw cw d1 d3;rw[bX rfl,D];refine⟨_,rfl,?_⟩;have g:=u.and Mk.four;rw[Bool.and_false] at g;have:=l.or g
     rwa [Bool.or_false] at this
   have i:(Fm.mk k s [] [a]).has=if k=5 then true else a.has:=by
    rw[Fm.M6,bV d]
   by_cases J:k=5
   ·subst J;rw[bX aal];refine fin _ ?_;rw[i,bX rfl];have:=r.or Mk.one
    rwa [Bool.or_true] at this
   ·rw[bV (show¬cr (Fm.mk k s [] [a]).acH 5=true by simpa[cr] using J)];refine fin _ ?_;rw[i,bV J];exact r
def BS{f:Fm}(hw:f.wt<=1000000000)(b:f.acN 1000000000000=true):qX f=some (if f.err≠0 then(false,f.err)else(f.has,0)):=by
 unfold qX qq;rw[er hw,bT]
 by_cases he:f.err=0
 ·obtain⟨a,hn⟩:=Fm.ea he;obtain⟨m,c,d⟩:=tP FU f (by have:=cV;omega) cw a b;rw[bV (by rw[cg];simpa using he),c,bT,d.bit,bW,bV (by simpa using he)]
 ·rw[bX (by rw[cg];exact he),bW,bX he]
def kG{α:Type}(m:List (Int×α)):List Int:=m.map (·.1)
def Au{α:Type}(k:Int)(v:α):∀(m:List (Int×α)) (x:Int),x∈kG (tj m k v)↔x=k\/x∈kG m
 |[],x=>by simp[tj,kG]|p::m,x=>by
  unfold tj
  by_cases h:p.1=k
  ·rw[bX h];subst h;simp[kG]
  ·rw[bV h];have a:=Au k v m x;simp only[kG,mL,jA] at a|-;rw[a];constructor
   ·rintro(h|h|h)
    ·exact .inr (.inl h)
    ·exact .inl h
    ·exact .inr (.inr h)
   ·rintro(h|h|h)
    ·exact .inr (.inl h)
    ·exact .inl h
    ·exact .inr (.inr h)
def zD{α:Type}(k:Int)(v:α):∀(m:List (Int×α)),(kG m).Nodup->(kG (tj m k v)).Nodup
 |[],_=>by simp[tj,kG]|p::m,h=>by
  have b:p.1∉kG m/\(kG m).Nodup:=Qc.1 h;unfold tj
  by_cases a:p.1=k
  ·rw[bX a];subst a;exact h
  ·rw[bV a];refine Qc.2 ⟨λhm=>?_,zD k v m b.2⟩;rcases(Au k v m p.1).1 hm with e|e
   ·exact a e
   ·exact b.1 e
def D5{α:Type}(k:Int)(v:α):∀(m:List (Int×α)),(tj m k v).length<=m.length+1
 |[]=>by simp[tj]|p::m=>by
  unfold tj
  split
  ·simp
  ·have:=D5 k v m;simp only[jK];omega
def JN(n:Int):∀l:List Int,(zk n l).length=l.length+1
 |[]=>rfl|a::l=>by
  unfold zk
  split
  ·rfl
  ·simp[JN n l]
def GH:∀(l acc:List Int),(wM acc l).length=acc.length+l.length
 |[],acc=>by simp[wM]|a::l,acc=>by rw[wM,GH l,JN];simp only[jK];omega
def FJ:∀(n:Nat) (t:Tm) (d:Int) (m:List (Int×Bool)),t.acJ<=n->t.acJ<=100000000->0<=d->d+t.acJ<=1000000000->t.acN 4611686018427387904=true->(kG m).Nodup->∃q,nJ n t d m=some q/\(kG q).Nodup/\q.length<=m.length+t.acJ/\∀x,x∈kG q↔x∈kG m\/(0<=x/\0<t.acP (x+d)):=by
 intro n
 induction n with
 |zero=>intro t d m h;have:=t.cu;omega
 |succ n J=>
  intro t d m hn w K L C hm;cases t with
  |mk k i s l=>
   have D:=gi k;rw[Tm.bY] at hn w L;have hlen:=eB Tm.acJ l λt _=>t.cu;rw[Tm.dn,ed,mH,ie] at C
   have acI:∀(F:Int->Tm->List (Int×Bool)->Option (dJ (List (Int×Bool)) (List (Int×Bool)))),(∀j x v,F j x v=bU (jz (Tm.mk k i s l)) λb=>bU (nJ n x (da .i64 d b) v) λr=>some (.next r))->∀(as:List Tm) (j:Nat) (v:List (Int×Bool)),(∀a∈as,a∈l)->(kG v).Nodup->∃e,cY F as j v=some (.inl e)/\(kG e).Nodup/\e.length<=v.length+cn Tm.acJ as/\∀x,x∈kG e↔x∈kG v\/(0<=x/\0<cn (Tm.acP (x+d+dD k)) as):=by
    intro F hF as
    induction as with
    |nil=>intro j v _ y;exact⟨v,rfl,y,by simp[cn],λx=>by simp[cn]⟩|cons a as z=>
     intro j v has y;have E:=has a th;have M:=cy Tm.acJ E;have A:=C.2 a E;obtain⟨v1,f,g,G,o⟩:=J a (d+dD k) v cw cw cw cw A y;obtain⟨v2,g1,g2,g3,g4⟩:=z (j+1) v1 (λb w=>has b (by simp[w])) g;refine⟨v2,?_,g2,by simp only[cn];omega,λx=>?_⟩
     ·rw[cM,hF,lL];simp only[bT,Tm.cx];rw[cX cw cw,f];simp only[bT,cS];exact g1
     ·rw[g4,o];simp only[cn];rw[<-Int.add_assoc];constructor
      ·rintro((h|h)|h)
       ·exact .inl h
       ·exact .inr ⟨h.1,cw⟩
       ·exact .inr ⟨h.1,cw⟩
      ·rintro(h|⟨h,u⟩)
       ·exact .inl (.inl h)
       ·by_cases N:0<a.acP (x+d+dD k)
        ·exact .inl (.inr ⟨h,N⟩)
        ·exact .inr ⟨h,cw⟩
   unfold nJ;simp only[cc,Tm.ck,ch (l:=l) cw,b6,Tm.cx,Tm.dK];rw[Tm.bY]
   by_cases p:k=1/\d<=i
   ·have c:dq (cr k 1) (qf i d) false=true:=by simp[dq,p.1,p.2]
    simp only[c,if_true];rw[dh cw cw];obtain⟨e,f,g,G,o⟩:=acI _ (λ_ _ _=>rfl) l 0 (tj m (i-d) true) (λa h=>h) (zD _ _ _ hm);refine⟨e,by rw[f];rfl,g,by have:=D5 (i-d) true m;omega,λx=>?_⟩;rw[o,Au,Tm.ee];constructor
    ·rintro((h|h)|h)
     ·exact .inr ⟨cw,by rw[bX ⟨p.1,cw⟩];omega⟩
     ·exact .inl h
     ·exact .inr ⟨h.1,cw⟩
    ·rintro(h|⟨h,u⟩)
     ·exact .inl (.inr h)
     ·by_cases H:x=i-d
      ·exact .inl (.inl H)
      ·rw[bV (λI=>H cw)] at u;exact .inr ⟨h,cw⟩
   ·have c:dq (cr k 1) (qf i d) false=false:=by
     unfold dq
     split
     ·rename_i O
      have B:k=1:=by simpa using O
      simp only[qf,N9]
      exactλh=>p ⟨B,h⟩
     ·rfl
    simp only[c,hZ,fG];obtain⟨e,f,g,G,o⟩:=acI _ (λ_ _ _=>rfl) l 0 m (λa h=>h) hm;refine⟨e,by rw[f];rfl,g,cw,λx=>?_⟩;rw[o,Tm.ee];constructor
    ·rintro(h|h)
     ·exact .inl h
     ·exact .inr ⟨h.1,cw⟩
    ·rintro(h|⟨h,u⟩)
     ·exact .inl h
     ·rw[bV (λI=>p ⟨I.1,cw⟩)] at u;exact .inr ⟨h,cw⟩
def FM{t:Tm}(hw:t.wt<=1000000000)(d:t.acN 4611686018427387904=true)(he:t.err=0):∃l,sM t=some (l,0)/\Dz l/\l.length<=4096/\∀x,x∈l↔0<=x/\0<t.acP x:=by
 have hn:t.acJ<=4096:=by
  unfold Tm.err at he
  split at he
  ·split at he
   ·cases he
   ·omega
  ·cases he
 obtain⟨m,e,c,f,g⟩:=FJ FU t 0 [] (by rw[cV];omega) cw cw cw d (by simp[kG])
 have a:(m.map (·.1)).Nodup:=c
 have b:m.length<=4096:=by simpa using Bw f (by simpa using hn)
 refine⟨wM [] (kG m),?_,yc _ [] .nil c th,?_,λx=>?_⟩
 ·unfold sM;rw[lJ hw,he];simp only[bT];rw[bV gw,e];simp only[bT];unfold oi
  rw[ch cw,b6,show vi (m.map (·.1))=true from by simp[vi,a],b6]
  rfl
 ·rw[GH];simp[kG,b]
 ·rw[yf,g];simp[kG]
def DK{n:Int}(a:0<=n)(b:n<4294967296):IntKind.u32.wrap n=n:=by
 unfold IntKind.wrap;simp only[show IntKind.u32.bits=32 from rfl,show IntKind.u32.signed=false from rfl,Va,hZ,fG,show((2:Int)^32)=4294967296 from rfl];omega
def HG(a:Nat):BitVec.ofInt 32 (a:Int)=BitVec.ofNat 32 a:=th
def H4{a b:Nat}(d:a<4294967296)(e:b<4294967296):tZ .u32 (a:Int) (b:Int)=((a|||b:Nat):Int):=by
 unfold tZ;have c:a|||b<2^32:=UX cw cw;rw[show IntKind.u32.bits=32 from rfl,HG,HG,BitVec.toNat_or,Sl,Sl,Rn cw,Rn cw];exact DK cw cw
def I7{a b:Nat}(d:a<4294967296)(e:b<4294967296):lX .u32 (a:Int) (b:Int)=((a&&&b:Nat):Int):=by
 unfold lX;have c:a&&&b<2^32:=Nat.and_lt_two_pow _ cw;rw[show IntKind.u32.bits=32 from rfl,HG,HG,BitVec.toNat_and,Sl,Sl,Rn cw,Rn cw];exact DK cw cw
def Qx{k:Nat}(b:k<32):U5 .u32 1 (k:Int)=((2^k:Nat):Int):=by
 unfold U5;rw[show IntKind.u32.bits=32 from rfl,za,Rk cw,Int.one_mul];have a:2^k<2^32:=Ti gw b;rw[show((2:Int)^k)=((2^k:Nat):Int) by push_cast;rfl];exact DK (Z5 _) (Int.ofNat_lt.2 (X6 a rfl))
def QP{a k:Nat}(b:k<=32):VB .u32 (a:Int) (k:Int)=((a/2^k:Nat):Int):=by
 unfold VB;rw[show IntKind.u32.bits=32 from rfl,za,Rk b];rw[show((2:Int)^k)=((2^k:Nat):Int) by push_cast;rfl];rw[Int.fdiv_eq_ediv_of_nonneg _ (Z5 _)];rfl
structure Us (l:List Int) (m:Nat):Prop where
 lt:m<4294967296
 pos:∀x∈l,0<=x
 srt:Dz l
 mem:∀i:Nat,(i:Int)∈l↔m.testBit i=true
def Us.nil:Us [] 0:=⟨gw,th,by first|exact .nil|trivial|simp[Dz],th⟩
def Bp{i b:Int}{m:Nat}(hm:m<4294967296)(g:0<=i)(l:i<=1000000000000)(o:0<=b)(p:b<=1000000000)(q:i-b<32):∃c:Nat,oE i b (m:Int)=some (c:Int)/\c<4294967296/\∀j:Nat,c.testBit j=true↔m.testBit j=true\/i=j+b:=by
 unfold oE
 by_cases h:b<=i
 ·rw[bX (by rw[fF];exact h),dh cw cw,show O7 (i-b)=true by simp[O7];omega,b6];obtain⟨k,f⟩:∃k:Nat,i-b=(k:Int):=⟨(i-b).toNat,cw⟩
  have a:k<32:=cw
  have d:2^k<4294967296:=X6 (Ti gw a) rfl;rw[f,Qx a,H4 hm d];refine⟨m|||2^k,rfl,UX (n:=32) cw cw,λj=>?_⟩;rw[UI,pE,R7,K0];constructor
  ·rintro(h|h)
   ·exact .inl h
   ·exact .inr cw
  ·rintro(h|h)
   ·exact .inl h
   ·exact .inr cw
 ·rw[bV (by rw[fF];exact h)];exact⟨m,rfl,hm,λj=>⟨.inl,λe=>e.elim id λe=>absurd e cw⟩⟩
def DY:∀(n:Nat) (t:Tm) (b:Int) (m:Nat),t.acJ<=n->t.acJ<=1000000->t.ok=true->t.acN 1000000000000=true->0<=b->b+t.acJ<=1000000000->m<4294967296->(∀j:Int,32<=j->t.acP (j+b)=0)->∃g:Nat,fD n t b (λ(s:Int) (o:Int) (p:Int)=>oE o p s) (m:Int)=some (g:Int)/\g<4294967296/\∀j:Nat,g.testBit j=true↔m.testBit j=true\/0<t.acP (j+b):=by
 intro n
 induction n with
 |zero=>intro t b m h;have:=t.cu;omega
 |succ n L=>
  intro t b m hn M N r O w hm c;cases t with
  |mk k i s l=>
   rw[Tm.bY] at hn M w;have hlen:=Tm.dm l;have hi:=Tm.jg N;rw[Tm.dn,ed,K0,ie] at r;have P:=gi k;rw[fD];simp only[cc]
   have x:∀j:Int,32<=j->∀t∈l,t.acP (j+(b+dD k))=0:=by
    intro j y t Q;have z:=c j y;rw[Tm.ee] at z;have V:=cy (Tm.acP (j+b+dD k)) Q;rw[show j+(b+dD k)=j+b+dD k by omega];omega
   have loop:∀(ts:List Tm) (j:Nat) (v:Nat),(∀t∈ts,t∈l)->v<4294967296->∃A:Nat,cY (λ(R:Int) (B:Tm)=>(λ(v28:Int)=>
      bU (fD n B (b+dD k) (λ(s:Int) (o:Int) (p:Int)=>oE o p s) v28) λC=>
      some ((.next C):dJ Int Int))) ts j (v:Int)=some (.inl (A:Int))/\A<4294967296/\∀q:Nat,A.testBit q=true↔v.testBit q=true\/0<cn (Tm.acP (q+b+dD k)) ts:=by
    intro ts
    induction ts with
    |nil=>intro j v _ D;exact⟨v,th,D,λq=>by simp[cn]⟩|cons t ts E=>
     intro j v d D;have a:=d t th;have S:=cy Tm.acJ a;obtain⟨v1,F,G,H⟩:=L t (b+dD k) v cw cw (hi.2.2.2.1 t a) (r.2 t a) cw cw D (λj y=>x j y t a);obtain⟨v2,f1,f2,f3⟩:=E (j+1) v1 (λu hu=>d u (by simp[hu])) G;refine⟨v2,?_,f2,λq=>?_⟩
     ·rw[cM,F];simp only[bT,cS];exact f1
     ·rw[f3,H];simp only[cn];rw[show(q:Int)+(b+dD k)=q+b+dD k by omega];constructor
      ·rintro((h|h)|h)
       ·exact .inl h
       ·exact .inr cw
       ·exact .inr cw
      ·rintro(h|h)
       ·exact .inl (.inl h)
       ·by_cases T:0<t.acP (q+b+dD k)
        ·exact .inl (.inr T)
        ·exact .inr cw
   by_cases I:k=1
   ·subst I;rw[bX (show cr (Tm.mk 1 i s l).acH 1=true from rfl)];simp only[Tm.ck,Tm.cx,Tm.dK]
    have J:i-b<32:=by
     rcases Int.lt_or_le (i-b) 32 with h|h
     ·exact h
     ·have z:=c (i-b) h;rw[Tm.ee,bX ⟨rfl,cw⟩] at z;omega
    obtain⟨U,F,G,H⟩:=Bp hm hi.2.1 r.1 O cw J;rw[F,bT,vd 1 b cw cw,ch cw,b6];obtain⟨K,f1,f2,f3⟩:=loop l 0 U (λt h=>h) G;refine⟨K,?_,f2,λq=>?_⟩
    ·have e:=f1;rw[show((0:Nat))=0 from rfl] at e;rw[e,bT];rfl
    ·rw[f3,H,Tm.ee]
     by_cases f:i=q+b
     ·rw[bX ⟨rfl,f⟩];exact⟨λ_=>.inr cw,λ_=>.inl (.inr f)⟩
     ·rw[bV (λh=>f h.2),sA];exact⟨λh=>h.elim (λh=>h.elim .inl λh=>absurd h f) .inr,λh=>h.elim (λh=>.inl (.inl h)) .inr⟩
   ·rw[bV (show¬cr (Tm.mk k i s l).acH 1=true by simpa[cr] using I)];simp only[Tm.ck,Tm.cx,Tm.dK];rw[vd k b cw cw,ch cw,b6];obtain⟨K,f1,f2,f3⟩:=loop l 0 m (λt h=>h) hm;refine⟨K,by rw[f1,bT];rfl,f2,λq=>?_⟩;rw[f3,Tm.ee,bV (λh=>I h.1),sA]
def SF{t:Tm}(he:t.err=0)(b:t.acN 1000000000000=true)(c:∀j:Int,32<=j->t.acP j=0):∃(l:List Int) (m:Nat),jv t=some (m:Int)/\iv t=some l/\Us l m/\∀x,x∈l↔0<=x/\0<t.acP x:=by
 obtain⟨a,hn⟩:=Tm.ea he;have hw:=t.eO a;obtain⟨m,d,e,f⟩:=DY FU t 0 0 (by have:=cV;omega) cw a b cw cw gw (λj g=>by rw[wV];exact c j g);obtain⟨l,g1,g2,_,g4⟩:=FM (t:=t) cw (Tm.iB t cw b) he;refine⟨l,m,?_,by unfold iv;rw[g1];rfl,⟨e,λx h=>((g4 x).1 h).1,g2,λi=>?_⟩,g4⟩
 ·unfold jv og;rw[show(0:Int)=((0:Nat):Int)from rfl] at*;rw[d];rfl
 ·rw[g4,f,wV];simp
def qp(v:List (Int×Bool))(l:List Int):List (Int×Bool):=l.foldl (λv x=>tj v x true) v
def vN:∀(l:List Int) (v:List (Int×Bool)),(kG v).Nodup->(kG (qp v l)).Nodup/\(qp v l).length<=v.length+l.length/\∀x,x∈kG (qp v l)↔x∈kG v\/x∈l
 |[],v,h=>⟨h,by simp[qp],λx=>by simp[qp]⟩|y::l,v,h=>by
  obtain⟨a,c,b⟩:=vN l (tj v y true) (zD y true v h);refine⟨a,?_,λx=>?_⟩
  ·have:=D5 y true v;show(qp (tj v y true) l).length<=_;rw[jK];omega
  ·show x∈kG (qp (tj v y true) l)↔_;rw[b,Au,jA];constructor
   ·rintro((h|h)|h)
    ·exact .inr (.inl h)
    ·exact .inl h
    ·exact .inr (.inr h)
   ·rintro(h|h|h)
    ·exact .inl (.inr h)
    ·exact .inl (.inl h)
    ·exact .inr h
def ER{ρ:Type}:∀(l:List Int) (j:Nat) (v:List (Int×Bool)),cY (λ(c:Int) (a:Int)=>(λ(b:(List (Int×Bool)))=>some ((.next (tj b a true)):dJ (List (Int×Bool)) ρ))) l j v=some (.inl (qp v l))
 |[],j,v=>by rw[k9];rfl|x::l,j,v=>by
  rw[cM];simp only[bT,cS];exact ER l (j+1) (tj v x true)
def E4{a b:List Int}(f:a.length<=1000000)(g:b.length<=1000000):∃l,dZ a b=some l/\Dz l/\∀x,x∈l↔x∈a\/x∈b:=by
 obtain⟨c,d,e⟩:=vN a [] (by simp[kG]);obtain⟨g1,g2,g3⟩:=vN b (qp [] a) c;refine⟨wM [] (kG (qp (qp [] a) b)),?_,yc _ _ .nil g1 th,λx=>?_⟩
 ·unfold dZ;simp only[cc];rw[ch cw,b6];rw[ER a 0 [],bT,b9,ch cw,b6,ER b 0 _,bT,b9];unfold oi;simp only[uo] at d;rw[ch cw,b6,show vi (List.map (λx=>x.1) (qp (qp [] a) b))=true from r9 g1,b6];rfl
 ·rw[yf,g3,e];simp[kG]
def Us.union{a b:List Int}{m n:Nat}(c:Us a m)(d:Us b n)(e:a.length<=1000000)(f:b.length<=1000000):∃l,dZ a b=some l/\tZ .u32 (m:Int) (n:Int)=((m|||n:Nat):Int)/\Us l (m|||n)/\∀x,x∈l↔x∈a\/x∈b:=by
 obtain⟨l,j,k,g⟩:=E4 e f;refine⟨l,j,H4 c.lt d.lt,⟨UX (n:=32) (by have:=c.lt;omega) (by have:=d.lt;omega),λx o=>?_,k,λi=>?_⟩,g⟩
 ·rcases(g x).1 o with h|h
  ·exact c.pos x h
  ·exact d.pos x h
 ·rw[g,c.mem,d.mem,UI,pE]
def Us.bound{l:List Int}{m:Nat}(h:Us l m):∀x∈l,x<32:=by
 intro x a;have b:=h.pos x a;obtain⟨k,rfl⟩:=Vv b;have:=(h.mem k).1 a;rcases rI k 32 with h1|h1
 ·omega
 ·exfalso;have c:m<2^k:=Ou h.lt (Bw (by decide:4294967296<=2^32) (Nat.pow_le_pow_right gw h1));rw[Nat.testBit_lt_two_pow c] at this;cases this
def vn(k:Int)(l:List Int):List Int:=(l.filter λx=>decide (k<=x)).map λx=>x-k
def En{k:Int}(e:0<=k)(c:k<=1000):∀(l:List Int) (j:Nat) (v:List Int),(∀x∈l,0<=x/\x<32)->v.length+l.length<=1000000->cY (λ(f:Int) (a:Int)=>(λ(b:List Int)=>
   if(qf a k) then(
   ef (dP b [(di .i64 a k)])<|some ((.next (dN b [(di .i64 a k)])):dJ (List Int) (List Int)))
   else(some (.next b)))) l j v=some (.inl (v++vn k l))
 |[],j,v,_,_=>by simp[vn]|x::l,j,v,h,g=>by
  simp only[jK] at g;have i:=h x th;rw[cM]
  by_cases d:k<=x
  ·rw[bX (by rw[fF];exact d),dc aae,b6,dh cw cw];simp only[bT,cS];rw[ei,En e c l (j+1) _ (λy hy=>h y (by simp[hy])) aae];simp[vn,d]
  ·rw[bV (by rw[fF];exact d)];simp only[bT,cS];rw[En e c l (j+1) v (λy hy=>h y (by simp[hy])) cw];simp[vn,d]
def BA{l:List Int}{m:Nat}(h:Us l m)(d:l.length<=1000000){k:Int}(c:0<=k)(a:k<=1000):eb l k=some (vn k l):=by
 unfold eb;simp only[cc];rw[ch cw,b6,En c a l 0 [] (λx b=>⟨h.pos x b,h.bound x b⟩) aae,bT,b9,mw]
def DS(k:Int)(l:List Int)(x:Int):x∈vn k l↔x+k∈l/\0<=x:=by
 unfold vn;simp only[kI,TC,K0];constructor
 ·rintro⟨y,⟨a,b⟩,rfl⟩;exact⟨by rw[Int.sub_add_cancel];exact a,cw⟩
 ·rintro⟨a,b⟩;exact⟨x+k,⟨a,cw⟩,cw⟩
def I_(k:Int):∀{l:List Int},Dz l->Dz (vn k l)
 |[],_=>.nil|a::l,.cons f g=>by
  have c:=I_ k g
  by_cases d:k<=a
  ·have e:vn k (a::l)=(a-k)::vn k l:=by simp[vn,d]
   rw[e];refine .cons (λb h=>?_) c;have:=f _ ((DS k l b).1 h).1;omega
  ·have e:vn k (a::l)=vn k l:=by simp[vn,d]
   rw[e];exact c
def Us.out{l:List Int}{m:Nat}(h:Us l m)(a:l.length<=1000000){k:Nat}(b:k<=32):eb l (k:Int)=some (vn k l)/\dv (m:Int) (k:Int)=some ((m/2^k:Nat):Int)/\Us (vn k l) (m/2^k):=by
 refine⟨BA h a cw cw,?_,⟨ZA (Nat.div_le_self _ _) h.lt,λx c=>((DS _ _ _).1 c).2,I_ _ h.srt,λi=>?_⟩⟩
 ·unfold dv;rw[show O7 (k:Int)=true by simp[O7],b6,QP b]
 ·rw[DS,show(i:Int)+(k:Int)=((i+k:Nat):Int) by omega,h.mem]
  have e:(m/2^k).testBit i=m.testBit (i+k):=by rw[Nat.testBit_div_two_pow]
  rw[e];exact⟨λh=>h.1,λh=>⟨h,cw⟩⟩
theorem Tm.up_add(f b c:Int)(j:0<=b):∀(t:Tm) (d:Int),(t.up (f+d) b).up (f+d) c=t.up (f+d) (b+c):=by
 intro t
 induction t using Tm.ind with
 |h k i s l e=>
  intro d;rw[Tm.fx,Tm.fx,Tm.fx]
  congr 1
  ·by_cases a:k=1/\f+d<=i
   ·rw[bX a,bX ⟨a.1,cw⟩];omega
   ·rw[bV a,bV a,bV a]
  ·rw[CW]
   exact qg λx g=>by
    have:=e x g (d+dD k);rw[show f+(d+dD k)=f+d+dD k by omega] at this;exact this
theorem Fm.up_add(f b c:Int)(a:0<=b):∀(t:Fm) (d:Int),(t.up (f+d) b).up (f+d) c=t.up (f+d) (b+c):=by
 intro t
 induction t using Fm.ind with
 |h k s ts l e=>
  intro d;rw[Fm.fx,Fm.fx,Fm.fx]
  congr 1
  ·rw[CW];exact qg λx _=>Tm.up_add f b c a x d
  ·rw[CW]
   exact qg λx g=>by
    have:=e x g (d+qB k);rw[show f+(d+qB k)=f+d+qB k by omega] at this;exact this
def Fm.HK(t:Fm){b c:Int}(a:0<=b):(t.up 0 b).up 0 c=t.up 0 (b+c):=by
 have:=Fm.up_add 0 b c a t 0
 rwa [wV] at this
def Fm.Kx(t:Fm):∀f,t.up f 0=t:=by
 induction t using Fm.ind with
 |h k s ts l a=>
  intro f;rw[Fm.fx]
  congr 1
  ·rw[qg (g:=id) λx _=>Tm.q_ x _];simp
  ·rw[qg (g:=id) λx b=>a x b _];simp
def Fm.q_(t:Fm):t.up 0 0=t:=Fm.Kx t 0
structure Hy (f:Fm):Prop where
 err:f.err=0
 acN:f.acN 536870912=true
structure SS (p:cm) (c:bZ):Prop where
 acL:p.acL=c.acL.map qw
 vars:p.ey.vars=(c.acL.length:Int)
 acO:p.ey.acO=(c.acO.length:Int)
 ctx:fQ c.acL
 nv:c.acL.length<=16
 nh:c.acO.length<=16
 known:p.known.length=c.acO.length
 hyp:∀(i:Nat) (x:cZ) (h:Fm),p.known[i]?=some x->c.acO[i]?=some h->Hy x.cf/\0<=x.vars/\x.vars<=c.acL.length/\h=x.cf.up 0 (c.acL.length-x.vars)
def SS.with{p:cm}{c:bZ}(h:SS p c){f:Fm}(m:Hy f)(hn:c.acO.length+1<=16):∃j d,dV p f=some j/\dU c f=some d/\SS j d/\d.lemmas=c.lemmas/\d.acL=c.acL/\d.acO=c.acO++[f]:=by
 unfold dV dU;have k:=h.known;rw[dc aae,b6,dc aae,b6];refine⟨_,_,rfl,rfl,⟨h.acL,h.vars,?_,h.ctx,h.nv,?_,?_,?_⟩,rfl,rfl,by simp only[ei]⟩
 ·show da .i64 p.ey.acO 1=_;rw[h.acO,cX (by have:=h.nh;omega) (by have:=h.nh;omega),ei];simp
 ·show(dN c.acO [f]).length<=16;rw[ei];simpa using hn
 ·show(dN p.known _).length=(dN c.acO [f]).length;simp[ei,k]
 ·intro i x g b a
  have b:(p.known++[cZ.mk f p.ey.vars])[i]?=some x:=by rw[<-ei];exact b
  have a:(c.acO++[f])[i]?=some g:=by rw[<-ei];exact a
  rcases rI i c.acO.length with e|hge
  ·rw[ni cw] at b;rw[ni e] at a;exact h.hyp i x g b a
  ·have hi:i=c.acO.length:=by
    have:=(jL.1 a).1;simp at this;omega
   subst hi;rw[n7 cw,k,RI] at b;rw[n7 cw,RI] at a;have n:cZ.mk f p.ey.vars=x:=gv b;have o:f=g:=gv a;subst n;subst o;have l:=h.vars;refine⟨m,by show 0<=p.ey.vars;omega,by show p.ey.vars<=_;exact Int.le_of_eq l,?_⟩;show f=f.up 0 (c.acL.length-p.ey.vars);rw[l,Int.sub_self];exact(Fm.q_ f).symm
def fQ.append{g l:List Ty}(h:fQ g)(a:fQ l):fQ (g++l):=λs hs=>(pX.1 hs).elim (h s) (a s)
def Br{g l:List Ty}(a:fQ l)(b:g.length+l.length<=900000):eC (g.map qw) l=some ((g++l).map qw):=by
 unfold eC;rw[tw a cw,bT,dc aae,b6,ei,Wg]
def SS.below{p:cm}{c:bZ}(h:SS p c){l:List Ty}(k:fQ l)(hn:c.acL.length+l.length<=16)(n:∀f∈c.acO,f.err=0/\f.acN 1000000000=true):∃m b,dO p l=some m/\dk c l=some b/\SS m b/\b.lemmas=c.lemmas/\b.acL=c.acL++l/\b.acO=c.acO.map (Fm.up 0 l.length):=by
 have o:=h.nh
 have q:dO p l=some (cm.mk (fv.mk (p.ey.vars+l.length) p.ey.acO) ((c.acL++l).map qw) p.known):=by
  unfold dO;rw[h.acL,Br k cw,bT];have:=h.vars;rw[dE,cX cw cw]
 have r:dk c l=some (bZ.mk c.lemmas (c.acL++l) (c.acO.map (Fm.up 0 l.length))):=by
  unfold dk;simp only[cc]
  rw[dc cw,b6,ch cw,b6,gG (Fm.up 0 l.length) c.acO 0 [] aae (λj x v s t=>by
   obtain⟨q1,u⟩:=n x s;obtain⟨w,y⟩:=Fm.ea q1
   rw[dE,w9 FU x 0 l.length (by rw[cV];omega) cw cw cw cw cw (Fm.iB x cw u),bT,dc (by simpa using t),b6,ei])]
  rw[bT,b9,ei,mw]
 refine⟨_,_,q,r,⟨rfl,?_,?_,h.ctx.append k,?_,?_,?_,?_⟩,rfl,rfl,rfl⟩
 ·show p.ey.vars+l.length=((c.acL++l).length:Int);rw[h.vars];simp
 ·show p.ey.acO=((c.acO.map (Fm.up 0 l.length)).length:Int);rw[h.acO];simp
 ·show(c.acL++l).length<=16;simpa using hn
 ·show(c.acO.map (Fm.up 0 l.length)).length<=16;simpa using h.nh
 ·show p.known.length=(c.acO.map (Fm.up 0 l.length)).length;simpa using h.known
 ·intro i x g d a;have d:p.known[i]?=some x:=d;have a:(c.acO.map (Fm.up 0 l.length))[i]?=some g:=a;rw[rS] at a;cases e:c.acO[i]?with
  |none=>rw[e] at a;cases a
  |some g0=>
   rw[e] at a;have a:g0.up 0 l.length=g:=gv a;obtain⟨a1,a2,a3,a4⟩:=h.hyp i x g0 d e;refine⟨a1,a2,?_,?_⟩
   ·show x.vars<=((c.acL++l).length:Int);simp;omega
   ·show g=x.cf.up 0 (((c.acL++l).length:Int)-x.vars);rw[<-a,a4,Fm.HK _ cw]
    congr 1
    simp;omega
def SS.L4{p:cm}{c:bZ}(h:SS p c){i:Int}(hi:0<=i):if(c.acO.length:Int)<=i then lO p i=some (.mk 0 (.mk 0 []) [] [],false)else∃f,cq c.acO (di .i64 (di .i64 (cE c.acO) 1) i)=some f/\lO p i=some (f,true):=by
 have g:=h.nh;have j:=h.known;unfold lO;rw[dE,j]
 split
 ·rename_i d;rw[bX (by rw[fF];exact d)]
 ·rename_i d;rw[bV (by rw[fF];exact d),dE,dh (a:=(c.acO.length:Int)) cw cw,dh cw cw]
  have b:(((c.acO.length:Int)-1-i).toNat)<c.acO.length:=cw
  have e:(c.acO.length:Int)-1-i=((((c.acO.length:Int)-1-i).toNat:Nat):Int):=cw
  rw[e,gu,gu,lV b,lV cw];obtain⟨a1,a2,a3,a4⟩:=h.hyp _ _ _ (lV cw) (lV b);refine⟨_,rfl,?_⟩;obtain⟨k,m⟩:=Fm.ea a1.err;have l:=h.nv;rw[bT,h.vars,dh cw cw,jU k cw (Fm.iB _ cw a1.acN) cw cw cw cw,bT,<-a4]
def Sk{t:Tm}(m:t.ok=true):tp t=some t.root:=by
 unfold tp;simp only[cc];cases t with
 |mk k i s l=>
  show(if(cr k 3) then(bU (cq l 0) λg=>some (cr g.acH 2))else(
   if(cr k 6) then(bU (cq l 2) λe=>if(cr e.acH 4) then some true else some (cr e.acH 5))else(
   if(cr k 9) then(bU (cq l 2) λf=>if(cr f.acH 7) then some true else some (cr f.acH 8))else(
   if(dq (cr k 11) true (cr k 12)) then(bU (cq l 0) λh=>some (cr h.acH 10))else some false))))=_
  unfold Tm.root
  by_cases n:k=3
  ·subst n;obtain⟨a,b,rfl⟩:=Tm.ok3 m;rw[bX gw];simp[cD,Tm.kd,r6]
  ·rw[bV (by simpa using n)]
   by_cases o:k=6
   ·subst o;obtain⟨a,b,c,rfl⟩:=Tm.ok6 m;rw[bX gw];simp only[gz,kx,fM,bT,Tm.kd,dX]
    by_cases j:c.acH=4
    ·simp[j]
    ·simp[j,r6]<;>exact MG.2 Iff.rfl
   ·rw[bV (by simpa using o)]
    by_cases p:k=9
    ·subst p;obtain⟨a,b,c,rfl⟩:=Tm.ok9 m;rw[bX gw];simp only[gz,kx,fM,bT,Tm.kd,dX]
     by_cases j:c.acH=7
     ·simp[j]
     ·simp[j,r6]<;>exact MG.2 Iff.rfl
    ·rw[bV (by simpa using p)]
     by_cases d:k=11\/k=12
     ·obtain⟨a,rfl⟩:=Tm.VX d m;rw[bX (by rcases d with rfl|rfl<;>rfl)];simp only[cD,fM,bT,Tm.kd];rcases d with rfl|rfl<;>simp[r6]<;>exact MG.2 Iff.rfl
     ·rw[bV (by simp only[jY,pE,dX];exact d)];simp only[not_or] at d;simp[n,o,p,d.1,d.2]
def wW{t:Tm}(h:t.acJ<=1000000000):dG FU t=some (t.acJ:Int):=lQ FU t (by rw[cV];exact h) h
def Oo{t:Tm}(o:t.ok=true)(hn:t.acJ<=8192)(f:t.root=true):p7 t=some ((t.dg.acJ:Int)-(t.acJ:Int)):=by
 have j:=Tm.E9 o f;have p:=hn;unfold p7;rw[wW cw];simp only[bT];cases j with
 |app=>
  rename_i i s c d b a;have l:=Tm.cI (Tm.cI o (.mk 2 c d [b]) th) b th;rw[Tm.bY] at hn;simp only[cn,Tm.bY] at hn;rw[bX aal];simp only[Tm.ck,cD,dQ,fM,kx,bT];rw[wW (t:=b) cw,wW (t:=a) cw,xU FU b 0 (by rw[cV];omega) cw cw cw];simp only[bT];have q:=Tm.fZ b 0;have hmul:b.acP 0*a.acJ<=8192*8192:=CP cw cw;have r:=Tm.pB a b 0 l;have u:=a.cu
  have e:(Tm.mk 3 i s [.mk 2 c d [b],a]).dg=Tm.e_ 0 b a:=by simp[Tm.dg]
  rw[e]
  have hint:(b.acP 0:Int)*((a.acJ:Int)-1)=((b.acP 0*a.acJ:Nat):Int)-(b.acP 0:Int):=by rw[Sy,SH];simp
  rw[dh (a:=(a.acJ:Int)) cw cw,yo (by rw[hint];omega) (by rw[hint];omega),hint,cX cw cw,dh cw cw]
  congr 1
  omega
 |proj m=>
  rename_i k i s c d a b;rw[Tm.bY] at hn;simp only[cn,Tm.bY] at hn;rcases m with rfl|rfl
  ·rw[bV th,bV th,bV th,bX aal];simp only[Tm.ck,cD,dQ,fM,kx,bT];rw[wW (t:=a) cw];simp only[bT];rw[dh cw cw];simp[Tm.dg]
  ·rw[bV th,bV th,bV th,bV th];simp only[Tm.ck,cD,dQ,fM,kx,bT];rw[wW (t:=b) cw];simp only[bT];rw[dh cw cw];simp[Tm.dg]
 |zero m=>
  rename_i k v i s c d b st;rw[Tm.bY] at hn;simp only[cn,Tm.bY] at hn
  have g:k≠3/\k≠11/\k≠12:=cw
  have:(Tm.mk k i s [b,st,.mk v c d []]).dg=b:=by simp[Tm.dg,g.1,g.2.1,g.2.2]
  rw[this];rcases m with⟨rfl,rfl⟩|⟨rfl,rfl⟩
  ·rw[bV th,bX aal];simp only[Tm.ck,cD,dQ,gz,fM,kx,bT];rw[bX aal,wW (t:=b) cw];simp only[bT];rw[dh cw cw]
  ·rw[bV th,bV th,bX aal];simp only[Tm.ck,cD,dQ,gz,fM,kx,bT];rw[bX aal,wW (t:=b) cw];simp only[bT];rw[dh cw cw]
 |succ=>
  rename_i i s c d b st n
  have e:(Tm.mk 6 i s [b,st,.mk 5 c d [n]]).dg=iK st [n,.mk 6 i s [b,st,n]]:=by simp[Tm.dg,iK]
  rw[e,mc];rw[Tm.bY] at hn|-;simp only[cn,Tm.bY,jK,uo] at hn|-;rw[bV th,bX aal];simp only[Tm.ck,cD,dQ,gz,fM,kx,bT];rw[bV th,wW (t:=st) cw,wW (t:=n) cw];simp only[bT];rw[cX (a:=2) cw cw,cX (b:=(n.acJ:Int)) cw cw,cX cw cw,dh (b:=1) cw cw,dh cw cw]
  congr 1
  omega
 |cons=>
  rename_i i s c d b st h n
  have e:(Tm.mk 9 i s [b,st,.mk 8 c d [h,n]]).dg=iK st [h,n,.mk 9 i s [b,st,n]]:=by simp[Tm.dg,iK]
  rw[e,mc];rw[Tm.bY] at hn|-;simp only[cn,Tm.bY,jK,uo] at hn|-;rw[bV th,bV th,bX aal];simp only[Tm.ck,cD,dQ,gz,fM,kx,bT];rw[bV th,wW (t:=st) cw,wW (t:=h) cw,wW (t:=n) cw];simp only[bT];rw[cX (a:=3) cw cw,cX (b:=(h.acJ:Int)) cw cw,cX (b:=(n.acJ:Int)) cw cw,cX cw cw,dh (b:=1) cw cw,dh (b:=(h.acJ:Int)) cw cw,dh cw cw]
  congr 1
  omega
def Mt{M:Int}(o:0<=M/\M<=1000000000000){t:Tm}(hs:Sm M t)(hn:t.acJ<=8192)(c:t.root=true):oJ t=some t.dg:=by
 have j:=hs.ok;have l:=Tm.E9 j c;have hw:=Tm.eO t j;unfold oJ;cases l with
 |app=>
  rename_i i s e f b a;have d:=(hs.arg (.mk 2 e f [b]) th).arg b th;have g:=hs.arg a th;have p:=d.acJ;have q:=g.acJ;rw[bX aal];simp only[Tm.ck,cD,dQ,fM,kx,bT];rw[Co FU b 0 0 a (by rw[cV];omega) cw cw cw cw (d.mono o.2).acN d.ok cw (g.mono o.2).acN];simp[Tm.dg]
 |proj m=>
  rename_i k i s e f a b;rcases m with rfl|rfl
  ·rw[bV th,bV th,bV th,bX aal];simp[Tm.dg,cD]
  ·rw[bV th,bV th,bV th,bV th];simp[Tm.dg,cD,dQ]
 |zero m=>
  rename_i k r i s e f b st;rcases m with⟨rfl,rfl⟩|⟨rfl,rfl⟩
  ·rw[bV th,bX aal];simp[Tm.dg,cD,gz,cr]
  ·rw[bV th,bV th,bX aal];simp[Tm.dg,cD,gz,cr]
 |succ=>
  rename_i i s e f b st n;have hi:i=0:=(Tm.jg j).2.2.1 gw;subst hi;rw[Tm.fo] at hw;simp only[cn,Tm.fo] at hw;rw[bV th,bX aal];simp only[Tm.ck,cD,dQ,gz,fM,kx,bT,Tm.cT];rw[bV th,uf cw cw];simp only[bT];rw[Ar cw cw cw cw];simp only[bT];rw[nC _ _ (by simp only[cn,Tm.fo,Ty.z,Ty.bY];omega)];simp[Tm.dg,iK,Ty.z]
 |cons=>
  rename_i i s e f b st h n;have hi:i=0:=(Tm.jg j).2.2.1 gw;subst hi;rw[Tm.fo] at hw;simp only[cn,Tm.fo] at hw;rw[bV th,bV th,bX aal];simp only[Tm.ck,cD,dQ,gz,fM,kx,bT,Tm.cT];rw[bV th,uf cw cw];simp only[bT];rw[nC _ _ (by simp only[cn,Tm.fo,Ty.z,Ty.bY];omega)];simp only[bT];rw[Ar cw cw cw cw];simp only[bT];rw[nC _ _ (by simp only[cn,Tm.fo,Ty.z,Ty.bY];omega)];simp[Tm.dg,iK,Ty.z]
def U3(t:Tm)(o:Option (Option Tm))(r:Tm×Bool×Bool):Prop:=
 match o with
 |none=>r.2.1=true/\r.2.2=false|some none=>r=(t,false,true)|some (some a)=>r=(a,true,true)
def Nq{M:Int}(C:0<=M/\M<=1000000000000)(room:Int):∀(n:Nat) (t:Tm),t.acJ<=n->Sm M t->t.acJ<=8192->∃r,ml n t room=some r/\U3 t (t.DL room) r
 |0,t,hn,_,_=>by have:=t.cu;omega
 |n+1,.mk k i s l,hn,hs,B=>by
  rw[ml,Sk hs.ok];simp only[bT];rw[Tm.zh]
  by_cases p:(Tm.mk k i s l).root=true
  ·rw[bX p,bX p,Oo hs.ok B p];simp only[bT,ep]
   by_cases hg:((Tm.mk k i s l).dg.acJ:Int)-((Tm.mk k i s l).acJ:Int)>room
   ·rw[bX hg,bX hg];exact⟨_,rfl,rfl,rfl⟩
   ·rw[bV hg,bV hg,Mt C hs B p];exact⟨_,rfl,rfl⟩
  ·rw[bV p,bV p];rw[Tm.bY] at hn B;have hlen:=Tm.PC hs.ok;simp only[Tm.ck,cc,ch (l:=l) cw,b6,Tm.cx,Tm.dK,Tm.cT]
   have key:∀(ts pre:List Tm),l=pre++ts->∃o,cY (λ(a:Int) (v:Tm)=>(λ(_:Unit)=>
     gM (ml n v room) λw x y=>
     if x then(
     ef (wF l)<|bU (cq l a) λD=>
     some (dJ.ret ((Tm.mk k i s (vU l a w)),true,y)))
     else(some (.next ())))) ts pre.length ()=some o/\(match Tm.p0 room ts with
      |none=>∃r:Tm×Bool×Bool,o=.inr r/\r.2.1=true/\r.2.2=false|some none=>o=.inl ()|some (some g)=>o=.inr (Tm.mk k i s (pre++g),true,true)):=by
    intro ts
    induction ts with
    |nil=>intro pre _;exact⟨_,rfl,by rw[Tm.p0]⟩|cons t ts E=>
     intro pre z
     have h:t∈l:=by rw[z];simp
     have F:=cy Tm.acJ h;obtain⟨⟨u,b,c⟩,G,j⟩:=Nq C room n t cw (hs.arg t h) cw;rw[cM];simp only[G,mD]
     have d:cq l ((pre.length:Nat):Int)=some t:=by
      unfold cq;rw[bX cw];rw[z];simp
     have dC:vU l ((pre.length:Nat):Int) u=pre++u::ts:=by
      unfold vU;rw[z,za,EH]
     have f:wF l=true:=by
      unfold wF yX;have:0<l.length:=List.length_pos_of_mem h;exact r9 cw
     rw[Tm.p0];unfold U3 at j;cases e:t.DL room with
     |none=>
      rw[e] at j;obtain⟨q1,A⟩:=j;simp only at q1 A;rw[bX q1,f,b6,d];exact⟨_,rfl,_,rfl,rfl,A⟩
     |some o=>
      cases o with
      |none=>
       rw[e] at j;obtain⟨rfl,q⟩:=fH j;obtain⟨rfl,rfl⟩:=fH q;rw[bV gw];simp only[bT,cS];obtain⟨o,o1,o2⟩:=E (pre++[u]) (by rw[z];simp);rw[nd] at o1;refine⟨o,o1,?_⟩;cases m:Tm.p0 room ts with
       |none=>rw[m] at o2;exact o2
       |some q=>
        cases q with
        |none=>rw[m] at o2;exact o2
        |some g=>rw[m] at o2;simpa using o2
      |some H=>
       rw[e] at j;obtain⟨rfl,q⟩:=fH j;obtain⟨rfl,rfl⟩:=fH q;rw[bX rfl,f,b6,d];simp only[bT,dC];exact⟨_,rfl,rfl⟩
   obtain⟨o,o1,o2⟩:=key l [] rfl;rw[show(([]:List Tm).length)=0 from rfl] at o1;rw[o1];cases m:Tm.p0 room l with
   |none=>
    rw[m] at o2;obtain⟨r,rfl,q1,A⟩:=o2;exact⟨r,rfl,q1,A⟩
   |some q=>
    cases q with
    |none=>rw[m] at o2;subst o2;exact⟨_,rfl,rfl⟩
    |some g=>rw[m] at o2;subst o2;exact⟨_,rfl,rfl⟩
def pk{t:Tm}(h:t.err=0):t.ok=true/\t.acJ<=4096:=Tm.ea h
def Ae(steps:Int)(z:0<=steps/\steps<=65536):∀(k:Nat) (m:Int) (t:Tm) (N:Nat),(k:Int)=steps-m->0<=m->Sm (536870912+8192*m) t->t.acJ<=4096->k<N->mJ ((Ph λ(d:Int) (f:Int) (g:Int) (i:Int) (j:List Ty) (l:List Tm)=>
   bU (dG FU (Tm.mk f g (Ty.mk i j) l)) λr=>
   gM (ml FU (Tm.mk f g (Ty.mk i j) l) (di .i64 4096 r)) λa s v=>
   if s then(
   if(cr d steps) then(
   some (.ret ((Tm.mk 0 0 (Ty.mk 0 []) []),0,5)))
   else(if v then(
   some (.next ((da .i64 d 1),a.acH,a.acK,a.b7.acH,a.b7.acI,a.acI)))
   else(some (.ret ((Tm.mk 0 0 (Ty.mk 0 []) []),0,4)))))
   else(bU (jQ FU (Tm.mk f g (Ty.mk i j) l)) λw=>
   some (.ret (w,d,0)))):(Int×Int×Int×Int×(List Ty)×(List Tm))->(Option (dJ (Int×Int×Int×Int×(List Ty)×(List Tm)) (Tm×Int×Int)))) N (m,t.acH,t.acK,t.b7.acH,t.b7.acI,t.acI)=some (.inr (t.norm k m))
 |k,m,t,0,_,_,_,_,A=>by omega|k,m,t,N+1,C,hm,hs,hn,A=>by
  rw[lv];simp only[xC,VI];have hw:=Tm.eO t hs.ok;rw[wW cw];simp only[bT];rw[dh cw cw];obtain⟨⟨u,b,c⟩,B,n⟩:=Nq (M:=536870912+8192*m) cw (4096-t.acJ) FU t (by rw[cV];omega) hs cw;rw[B];simp only[mD];unfold U3 at n;cases e:t.DL (4096-t.acJ)with
  |none=>
   rw[e] at n;obtain⟨q1,y⟩:=n;simp only at q1 y;rw[bX q1];cases k with
   |zero=>
    have p:¬t.nf=true:=by
     intro h;rw[(xJ _ t).1 h] at e;cases e
    rw[bX (by simp[cr];omega),Tm.norm,bV p];rfl
   |succ k=>
    rw[bV (by simp[cr];omega),bV (by rw[y];decide),I' e];rfl
  |some o=>
   cases o with
   |none=>
    rw[e] at n;obtain⟨rfl,q⟩:=fH n;obtain⟨rfl,rfl⟩:=fH q;rw[bV gw,rf cw];cases k with
    |zero=>rw[Tm.norm,bX ((xJ _ _).2 e)];rfl|succ k=>rw[x0 e];rfl
   |some D=>
    rw[e] at n;obtain⟨rfl,q⟩:=fH n;obtain⟨rfl,rfl⟩:=fH q;rw[bX rfl];cases k with
    |zero=>
     have p:¬t.nf=true:=by
      intro h;rw[(xJ _ t).1 h] at e;cases e
     rw[bX (by simp[cr];omega),Tm.norm,bV p];rfl
    |succ k=>
     obtain⟨s1,s2,E⟩:=IJ (M:=536870912+8192*m) cw t hs cw _ e;rw[bV (by simp[cr];omega),bX rfl,yj e,cX cw cw];have x:Sm (536870912+8192*(m+1)) u:=⟨s1,by rw[show 536870912+8192*(m+1)=536870912+8192*m+8192 by omega];exact s2,cw⟩;exact Ae steps z k (m+1) u N cw cw x cw cw
def Hk:∀(k:Nat) (m:Int) (t p:Tm) (n e:Int),t.norm k m=(p,n,e)->e≠0->p=Tm.z
 |0,m,t,p,n,e,h,he=>by
  rw[Tm.norm] at h
  split at h
  ·obtain⟨_,h⟩:=fH h;obtain⟨_,h⟩:=fH h;exact absurd h.symm he
  ·exact(fH h).1.symm
 |k+1,m,t,p,n,e,h,he=>by
  rw[Tm.norm] at h
  split at h
  ·exact(fH h).1.symm
  ·obtain⟨_,h⟩:=fH h;obtain⟨_,h⟩:=fH h;exact absurd h.symm he
  ·exact Hk k _ _ _ _ _ h he
def w6{t:Tm}(hw:t.wt<=1000000)(steps:Int):∃p m e,kg t steps=some (p,m,e)/\j8 t steps=some (p,m,e)/\p.wt<=1000000000:=by
 have i:=t.fE
 have c:Tm.z.wt<=1000000000:=gw
 have a:=vx (t:=t) cw steps;unfold j8;rw[lJ cw];simp only[bT]
 by_cases he:t.err=0
 ·obtain⟨j,hn⟩:=pk he;rw[bX he] at a;rw[bV (by simp[cG,he])];simp only[cc,j6,ep]
  by_cases a1:steps<0
  ·rw[bV cw] at a;rw[bX a1,bX trivial];exact⟨_,_,_,a,rfl,c⟩
  ·rw[bV a1]
   by_cases a2:steps>65536
   ·rw[bV cw] at a;rw[bX a2,bX trivial];exact⟨_,_,_,a,rfl,c⟩
   ·rw[bV a2,w7 FU t 536870912 (by rw[cV];omega) cw];simp only[bT]
    by_cases b:t.acN 536870912=true
    ·rw[bX ⟨cw,cw,b⟩] at a;have hs:Sm 536870912 t:=⟨j,b,cw⟩;rw[b,bV gw,Ae steps cw steps.toNat 0 t FU cw cw hs cw (by rw[cV];omega)];generalize d:t.norm steps.toNat 0=o at a;obtain⟨p,m,e⟩:=o;refine⟨p,m,e,a,rfl,?_⟩;have f:=Ax steps.toNat 0 t
     by_cases g:e=0
     ·subst g;obtain⟨q1,k⟩:=DB _ 536870912 _ _ _ _ cw hs hn d;have:=Tm.eO p q1.ok;omega
     ·rw[Hk _ _ _ _ _ _ d g];exact c
    ·rw[bV (λh=>b h.2.2)] at a;rw[bX (by rw[Bool.not_eq_true] at b;rw[b];rfl)];exact⟨_,_,_,a,rfl,c⟩
 ·rw[bV he] at a;rw[bX (by simp[cG,he])];exact⟨_,_,_,a,rfl,c⟩
def Hc{a b:Tm}(c:a.wt<=1000000000):∃r,tz a b=some r/\ir FU a b=some r:=by
 obtain⟨r,d,e⟩:=uB (b:=b) c;obtain⟨q,q1,f⟩:=yQ FU a b (by rw[cV];exact c) c
 have:r=q:=by rw[AS,e,f]
 subst this;exact⟨r,d,q1⟩
def Mv{a b:Tm}(l:a.wt<=1000000)(o:b.wt<=1000000)(steps:Int):∃c,kX a b steps=some c/\pd a b steps=some c:=by
 unfold kX pd;rw[nr cw,nr (t:=b) cw,lJ cw,lJ (t:=b) cw];simp only[bT]
 by_cases d:cG a.err 0=true
 ·rw[bX d,bX d];exact⟨_,rfl,rfl⟩
 ·rw[bV d,bV d]
  by_cases g:cG b.err 0=true
  ·rw[bX g,bX g];exact⟨_,rfl,rfl⟩
  ·rw[bV g,bV g];obtain⟨r,u,v⟩:=Hc (a:=a) (b:=b) cw;rw[u,v];simp only[bT]
   by_cases h:r=true
   ·rw[bX h,bX h];exact⟨_,rfl,rfl⟩
   ·rw[bV h,bV h];obtain⟨p,m,e,w,x,y⟩:=w6 l steps;obtain⟨q,n,f,q1,z,A⟩:=w6 o steps;rw[w,x,q1,z];simp only[mD]
    by_cases i:cG e 0=true
    ·rw[bX i,bX i];exact⟨_,rfl,rfl⟩
    ·rw[bV i,bV i]
     by_cases j:cG f 0=true
     ·rw[bX j,bX j];exact⟨_,rfl,rfl⟩
     ·rw[bV j,bV j];obtain⟨s,s1,s2⟩:=Hc (a:=p) (b:=q) y;rw[s1,s2];simp only[bT]
      by_cases k:s=true
      ·rw[bX k];exact⟨_,rfl,rfl⟩
      ·rw[bV k];exact⟨_,rfl,rfl⟩
def Bj{α:Type}{E E':α->α->Option Int}{M:List α}:∀(l:List α) (i:Nat),(∀x∈l,∀y∈M,∃c,E x y=some c/\E' x y=some c)->i+l.length<=M.length->∃o,cY (λ(d:Int) (e:α)=>(λ(_:Unit)=>bU (cq M d) λb=>bU (E e b) λa=>if(cG a 0) then(some (.ret a))else(some ((.next ()):dJ Unit Int)))) l i ()=some o/\cY (λ(d:Int) (e:α)=>(λ(_:Unit)=>bU (cq M d) λb=>bU (E' e b) λa=>if(cG a 0) then(some (.ret a))else(some ((.next ()):dJ Unit Int)))) l i ()=some o
 |[],i,_,_=>⟨.inl (),th,th⟩|x::l,i,h,g=>by
  simp only[jK] at g;obtain⟨c,j,k⟩:=h x th M[i] (AY cw);rw[cM,cM,gu,lV cw];simp only[bT,j,k]
  by_cases f:cG c 0=true
  ·rw[bX f];exact⟨.inr c,rfl,rfl⟩
  ·rw[bV f];simp only[bT,cS];exact Bj l (i+1) (λy hy=>h y (by simp[hy])) cw
def Fm.shape{k:Int}{s f:Ty}{ts us:List Tm}{l m:List Fm}(h:(Fm.mk k s ts l).ok=true)(d:(Fm.mk k f us m).ok=true):ts.length=us.length/\l.length=m.length:=by
 rw[Fm.eo] at h d;simp only[ed] at h d;have c:=h.1.1;have a:=d.1.1;unfold Fm.node at c a
 split at c
 ·rename_i e;rw[bX e] at a;simp only[ed,mH] at c a;omega
 ·rename_i e;rw[bV e] at a
  split at c
  ·rename_i b;rw[bX b] at a;simp only[ed,mH] at c a;omega
  ·rename_i b;rw[bV b] at a;simp only[ed,mH] at c a;omega
def MB:∀(n:Nat) (a b:Fm),a.wt<=n->a.wt<=1000000->b.wt<=1000000->a.ok=true->b.ok=true->∃c,js n a b=some c/\nD n a b=some c:=by
 intro n
 induction n with
 |zero=>intro t b h;have:=t.gK;omega
 |succ n w=>
  intro a b h z g p d;cases a with
  |mk k s ts l=>
  cases b with
  |mk k' A us m=>
   rw[Fm.fo] at h z g;have D:=Fm.mh l;have B:=Tm.mh ts;rw[js,nD];simp only[Fm.ck,Fm.cx,Fm.eI,Fm.cT,cc,ch (l:=l) cw,ch (l:=ts) cw,b6,cg]
   by_cases e:k≠k'
   ·rw[bX e,bX e];exact⟨11,rfl,rfl⟩
   ·rw[bV e,bV e,nR cw,fU cw];simp only[bT];have i:k=k':=uu.1 e;subst i;obtain⟨s1,s2⟩:=Fm.shape p d;obtain⟨_,F,ol⟩:=Fm.mz p;obtain⟨_,C,j⟩:=Fm.mz d;cases s.iY A with
    |false=>exact⟨11,rfl,rfl⟩|true=>
     obtain⟨o,q,k2⟩:=Bj (E:=λx y=>kX x y 1000) (E':=λx y=>pd x y 1000) (M:=us) ts 0 (λx f y hy=>Mv (by have:=cy Tm.wt f;omega) (by have:=cy Tm.wt hy;omega) 1000) cw;simp only[cg] at q k2;rw[bV gw,bV gw,q,k2];cases o with
     |inr r=>exact⟨r,rfl,rfl⟩|inl u=>
      simp only[bT,b9];obtain⟨o,q1,v⟩:=Bj (E:=λx y=>js n x y) (E':=λx y=>nD n x y) (M:=m) l 0 (λx f y hy=>w x y (by have:=cy Fm.wt f;omega) (by have:=cy Fm.wt f;omega) (by have:=cy Fm.wt hy;omega) (ol x f) (j y hy)) cw;simp only[cg] at q1 v;rw[q1,v];cases o with
      |inr r=>exact⟨r,rfl,rfl⟩|inl u=>exact⟨0,rfl,rfl⟩
def zK{a b:Fm}(f:a.wt<=1000000000)(g:b.wt<=1000000000):∃c,jk a b=some c/\ki a b=some c:=by
 unfold jk ki;rw[er f,er g,iA f,iA g];simp only[bT,cg]
 by_cases d:a.err≠0
 ·rw[bX d,bX d];exact⟨_,rfl,rfl⟩
 ·rw[bV d,bV d]
  by_cases e:b.err≠0
  ·rw[bX e,bX e];exact⟨_,rfl,rfl⟩
  ·rw[bV e,bV e];obtain⟨o1,n1⟩:=Fm.ea (uu.1 d);obtain⟨o2,n2⟩:=Fm.ea (uu.1 e);have j:=a.eO o1;have k:=b.eO o2;obtain⟨c,h,i⟩:=MB FU a b (by rw[cV];omega) cw cw o1 o2;rw[h,i];exact⟨c,rfl,rfl⟩
def Cv{g:List Ty}{x:Tm}{t:Ty}(h:cQ g x t)(hg:fQ g)(a:g.length+x.acJ<=1000000):x.ty g=(t,0):=by
 have b:=(Qa h hg).2 x.acJ (fC _) a;rw[xV x.acJ x (fC _) h.ok g hg a] at b;exact gv b
def J3{g:List Ty}{x:Tm}(c:x.ok=true)(hg:fQ g)(h:mU x g 1=0):cQ g x .nat:=by
 unfold mU at h
 split at h
 ·cases h
 ·rename_i d
  have e:(x.ty g).1.acH=1:=by
   rcases Int.emod_two_eq (x.ty g).1.acH with _|_<;>
   ·by_cases a:(x.ty g).1.acH=1
    ·exact a
    ·exact absurd ⟨h,a⟩ d
  obtain⟨b,f⟩:=ov _ x (fC _) c g hg _ (wI h);rw[(s8 f).1 e] at b;exact b
def Nu{g:List Ty}{x:Tm}(h:cQ g x .nat)(hg:fQ g)(a:g.length+x.acJ<=1000000):mU x g 1=0:=by
 unfold mU;rw[Cv h hg a];exact bV (λh=>h.2 rfl)
def pj(f:Fm)(o:f.ok=true):∀g,fQ g->f.ta g=0->eY g f:=by
 refine Fm.kV (p:=λf=>∀g,fQ g->f.ta g=0->eY g f) ?_ ?_ ?_ f o
 ·intro a b j n g hg h;rw[Fm.rG] at h
  by_cases c:mU a g 1=0
  ·by_cases e:mU b g 1=0
   ·exact .eq (J3 j hg c) (J3 n hg e)
   ·simp[dp,c,e] at h
  ·simp[dp,c] at h
 ·intro k a b i j n d l g hg h
  have m:gL k=false:=by rcases i with rfl|rfl<;>rfl
  rw[Fm.rG,m] at h;simp only[pF,dp,mL,if_true,hZ,fG] at h
  by_cases c:a.ta g=0
  ·rw[bX c] at h
   by_cases e:b.ta g=0
   ·exact .two i (d g hg c) (l g hg e)
   ·rw[bV e] at h;exact absurd h e
  ·rw[bV c] at h;exact absurd h c
 ·intro k s a i hs j d g hg h
  have m:gL k=true:=by rcases i with rfl|rfl|rfl|rfl<;>rfl
  rw[Fm.rG,m] at h;simp only[pF,dp,mL,if_true] at h
  by_cases c:a.ta (g++[s])=0
  ·exact .q i hs (d _ (hg.app hs) c)
  ·rw[bV c] at h;exact absurd h c
def rX{g:List Ty}{f:Fm}(h:eY g f):fQ g->g.length+f.acJ<=1000000->f.ta g=0:=by
 induction h with
 |eq l m=>
  intro hg c;rw[Fm.bY] at c;simp only[cn] at c;rw[Fm.rG];simp[dp,Nu l hg cw,Nu m hg cw]
 |two d _ _ e i=>
  intro hg c;rw[Fm.bY] at c;simp only[cn] at c;rename_i k a b _ _
  have j:gL k=false:=by rcases d with rfl|rfl<;>rfl
  rw[Fm.rG,j];simp[dp,e hg cw,i hg cw]
 |q d hs _ n=>
  intro hg c;rw[Fm.bY] at c;simp only[cn] at c;rename_i k s a _
  have j:gL k=true:=by rcases d with rfl|rfl|rfl|rfl<;>rfl
  rw[Fm.rG,j];simp[dp,n (hg.app hs) aae]
def eY.up{g:List Ty}{f:Fm}(h:eY g f):∀g1 g2 e:List Ty,g=g1++g2->eY (g1++e++g2) (f.up g2.length e.length):=by
 induction h with
 |eq l m=>
  intro g1 g2 e hg;rw[Fm.fx];exact .eq (l.up g1 g2 e hg) (m.up g1 g2 e hg)
 |two c _ _ d i=>
  intro g1 g2 e hg;rename_i k a b _ _
  have j:qB k=0:=by rcases c with rfl|rfl<;>rfl
  rw[Fm.fx,j,wV];exact .two c (d g1 g2 e hg) (i g1 g2 e hg)
 |q c hs _ n=>
  intro g1 g2 e hg;rename_i k s a _
  have j:qB k=1:=by rcases c with rfl|rfl|rfl|rfl<;>rfl
  subst hg;have:=n g1 (g2++[s]) e (by rw[mI]);rw[Fm.fx,j];rw[nd,<-mI] at this;exact .q c hs this
def eY.lift{g:List Ty}{f:Fm}(h:eY g f)(e:List Ty):eY (g++e) (f.up 0 e.length):=by
 have:=h.up g [] e th;simpa using this
theorem eY.e_{g:List Ty}{f:Fm}(h:eY g f):∀(g1:List Ty) (s:Ty) (g2:List Ty) (a:Tm),g=g1++[s]++g2->cQ g1 a s->eY (g1++g2) (Fm.e_ g2.length f a):=by
 induction h with
 |eq j l=>
  intro g1 s g2 a hg b;rw[Fm.fB];exact .eq (j.e_ g1 s g2 a hg b) (l.e_ g1 s g2 a hg b)
 |two c _ _ d e=>
  intro g1 s g2 a hg b;rename_i k x y _ _
  have i:qB k=0:=by rcases c with rfl|rfl<;>rfl
  rw[Fm.fB,i,wV];exact .two c (d g1 s g2 a hg b) (e g1 s g2 a hg b)
 |q c hs _ m=>
  intro g1 s g2 a hg b;rename_i k n x _
  have i:qB k=1:=by rcases c with rfl|rfl|rfl|rfl<;>rfl
  subst hg;have:=m g1 s (g2++[n]) a th b;rw[Fm.fB,i];rw[nd,<-mI] at this;exact .q c hs this
def eY.put{g:List Ty}{s:Ty}{f:Fm}(h:eY (g++[s]) f){a:Tm}(b:cQ g a s):eY g (Fm.e_ 0 f a):=by
 have:=h.e_ g s [] a th b;simpa using this
def cQ.front{g:List Ty}{x:Tm}{t:Ty}(h:cQ g x t)(e:List Ty):cQ (e++g) x t:=by
 induction h with
 |@var g t i c j=>
  refine .var i aae ?_;rw[n7 aae,<-j]
  congr 1
  simp;omega
 |lam c _ d=>exact .lam c (by rw[mI];exact d)|app _ _ a b=>exact .app a b|zero=>exact .zero|succ _ d=>exact .succ d|rW c _ _ _ a b f=>exact .rW c a b f|nil=>exact .nil|cons _ _ a b=>exact .cons a b|fold c _ _ _ a b f=>exact .fold c a b f|pair c _ _ a b=>exact .pair c a b|fst _ d=>exact .fst d|snd _ d=>exact .snd d|unit=>exact .unit
def eY.front{g:List Ty}{f:Fm}(h:eY g f)(e:List Ty):eY (e++g) f:=by
 induction h with
 |eq d i=>exact .eq (d.front e) (i.front e)|two a _ _ b c=>exact .two a b c|q a hs _ j=>exact .q a hs (by rw[mI];exact j)
structure Hg (g:List Ty) (f:Fm):Prop where
 err:f.err=0
 ty:eY g f
def Hg.acJ{g:List Ty}{f:Fm}(h:Hg g f):f.acJ<=4096:=(Fm.ea h.err).2
def Hg.ok{g:List Ty}{f:Fm}(h:Hg g f):f.ok=true:=(Fm.ea h.err).1
def Hg.acN{g:List Ty}{f:Fm}(h:Hg g f)(hg:g.length<=16){m:Int}(hm:5000<=m):f.acN m=true:=h.ty.acN m (by have:=h.acJ;omega)
def Hg.hy{g:List Ty}{f:Fm}(h:Hg g f)(hg:g.length<=16):Hy f:=⟨h.err,h.acN hg cw⟩
def Hg.up{g:List Ty}{f:Fm}(h:Hg g f)(l:List Ty):Hg (g++l) (f.up 0 l.length):=by
 have hn:=Fm.nN f 0 l.length;obtain⟨a,b⟩:=Fm.ea h.err;refine⟨?_,h.ty.lift l⟩;unfold Fm.err;rw[Fm.EZ f 0 l.length cw cw,a,bX rfl,hn,bV cw]
structure PG (L:List Fm) (p:cm) (c:bZ):Prop where
 pl:SS p c
 Ib:c.lemmas=L
 WC:∀f∈L,Hg [] f
 acO:∀f∈c.acO,Hg c.acL f
def PG.Pw{L:List Fm}{p:cm}{c:bZ}(h:PG L p c){l:List Ty}(j:fQ l)(hn:c.acL.length+l.length<=16):∃d a,dO p l=some d/\dk c l=some a/\PG L d a/\a.acL=c.acL++l/\a.acO=c.acO.map (Fm.up 0 l.length):=by
 obtain⟨d,a,k,m,n,o,g,i⟩:=h.pl.below j hn (λf b=>⟨(h.acO f b).err,(h.acO f b).acN h.pl.nv cw⟩);refine⟨d,a,k,m,⟨n,o.trans h.Ib,h.WC,λf b=>?_⟩,g,i⟩;rw[i] at b;obtain⟨f0,e,rfl⟩:=kI.1 b;rw[g];exact(h.acO f0 e).up l
def PG.below{L:List Fm}{p:cm}{c:bZ}(h:PG L p c){s:Ty}(hs:s.err=0)(hn:c.acL.length+1<=16):∃b a,dO p [s]=some b/\dk c [s]=some a/\PG L b a/\a.acL=c.acL++[s]/\a.acO=c.acO.map (Fm.up 0 1):=
 h.Pw (l:=[s]) (λx d=>by rw[yC.1 d];exact hs) hn
def PG.with{L:List Fm}{p:cm}{c:bZ}(h:PG L p c){f:Fm}(d:Hg c.acL f)(hn:c.acO.length+1<=16):∃b a,dV p f=some b/\dU c f=some a/\PG L b a/\a.acL=c.acL/\a.acO=c.acO++[f]:=by
 obtain⟨b,a,i,j,k,l,e,g⟩:=h.pl.with (d.hy h.pl.nv) hn;refine⟨b,a,i,j,⟨k,l.trans h.Ib,h.WC,λx hx=>?_⟩,e,g⟩;rw[g] at hx;rw[e];rcases pX.1 hx with hx|hx
 ·exact h.acO x hx
 ·rw[yC.1 hx];exact d
def PG.room{L:List Fm}{p:cm}{c:bZ}(h:PG L p c){v k:Nat}(e:v<=100)(f:k<=100):(cK p.ey v k=some 0/\cF c v k=some 0/\c.acL.length+v<=16/\c.acO.length+k<=16)\/(cK p.ey v k=some 3/\cF c v k=some 3/\(16<c.acL.length+v\/16<c.acO.length+k)):=by
 unfold cK cF;have b:=h.pl.vars;have d:=h.pl.acO;have g:=h.pl.nv;have i:=h.pl.nh;rw[b,d,dE,dE,cX cw cw,cX cw cw,jY]
 by_cases a:(m8 ((c.acL.length:Int)+v) 16||m8 ((c.acO.length:Int)+k) 16)=true
 ·rw[bX a];simp only[pE,ep] at a;exact .inr ⟨rfl,rfl,cw⟩
 ·rw[bV a];simp only[pE,ep,not_or] at a;exact .inl ⟨rfl,rfl,cw,cw⟩
def Dz.len{N:Int}:∀{l:List Int} {lo:Int},Dz l->(∀x∈l,lo<=x/\x<N)->(l.length:Int)<=max 0 (N-lo)
 |[],lo,_,_=>by simp;omega|a::l,lo,.cons c d,h=>by
  have e:=h a th;have f:=Dz.len (lo:=a+1) d (λx b=>⟨by have:=c x b;omega,(h x (by simp[b])).2⟩);simp only[jK];omega
def Us.len{l:List Int}{m:Nat}(h:Us l m):l.length<=32:=by
 have:=Dz.len (N:=32) (lo:=0) h.srt (λx a=>⟨h.pos x a,h.bound x a⟩);omega
def cQ.Me{g:List Ty}{x:Tm}{t:Ty}(h:cQ g x t):∀j:Int,(g.length:Int)<=j->x.acP j=0:=by
 induction h with
 |@var g t i k l=>
  intro j a;rw[Tm.ee,bV (λh=>by have:=h.2;omega)];rfl
 |@lam g s b t k _ e=>
  intro j a;rw[Tm.ee,bV (λh=>by cases h.1)];simp only[cn];rw[e (j+dD 2) (by show _<=j+1;simp;omega)]
 |app _ _ c d=>intro j a;rw[Tm.ee,bV (λh=>by cases h.1)];simp only[cn,show dD 3=0 from rfl,wV,c j a,d j a]
 |zero=>intro j a;rw[Tm.ee,bV (λh=>by cases h.1)];rfl
 |succ _ e=>intro j a;rw[Tm.ee,bV (λh=>by cases h.1)];simp only[cn,show dD 5=0 from rfl,wV,e j a]
 |rW k _ _ _ c d f=>intro j a;rw[Tm.ee,bV (λh=>by cases h.1)];simp only[cn,show dD 6=0 from rfl,wV,c j a,d j a,f j a]
 |nil=>intro j a;rw[Tm.ee,bV (λh=>by cases h.1)];rfl
 |cons _ _ c d=>intro j a;rw[Tm.ee,bV (λh=>by cases h.1)];simp only[cn,show dD 8=0 from rfl,wV,c j a,d j a]
 |fold k _ _ _ c d f=>intro j a;rw[Tm.ee,bV (λh=>by cases h.1)];simp only[cn,show dD 9=0 from rfl,wV,c j a,d j a,f j a]
 |pair k _ _ c d=>intro j a;rw[Tm.ee,bV (λh=>by cases h.1)];simp only[cn,show dD 10=0 from rfl,wV,c j a,d j a]
 |fst _ e=>intro j a;rw[Tm.ee,bV (λh=>by cases h.1)];simp only[cn,show dD 11=0 from rfl,wV,e j a]
 |snd _ e=>intro j a;rw[Tm.ee,bV (λh=>by cases h.1)];simp only[cn,show dD 12=0 from rfl,wV,e j a]
 |unit=>intro j a;rw[Tm.ee,bV (λh=>by cases h.1)];rfl
def eG:Fm:=.mk 0 (.mk 0 []) [] []
def HA(k:Option (b0×Int)):Option (b0×Int):=
 b8 k λa b=>
 if(cG b 0) then(
 some ((b0.mk (Fm.mk 0 (Ty.mk 0 []) [] []) 0),b))
 else(bU (fA a.cf) λd=>
 if(cG d 0) then(
 some ((b0.mk (Fm.mk 0 (Ty.mk 0 []) [] []) 0),4))
 else(cB (λ(v30:Int)=>
 some ((b0.mk a.cf v30),0)) λc=>
 b8 (qX a.cf) λe f=>
 if e then(
 c a.eD)
 else(c 0)))
def H8(r:Option (Fm×List Int×Int)):Option (sh×Int):=
 gM r λb g f=>
 if(cG f 0) then(
 some ((sh.mk (Fm.mk 0 (Ty.mk 0 []) [] []) []),f))
 else(bU (hY b) λc=>
 if(cG c 0) then(
 some ((sh.mk (Fm.mk 0 (Ty.mk 0 []) [] []) []),4))
 else(cB (λ(d:List Int)=>
 some ((sh.mk b d),0)) λa=>
 b8 (mQ b) λe h=>
 if e then(
 a g)
 else(a [])))
def z6{α:Type}{F:Int->α->Unit->Option (dJ Unit Bool)}(w:α->Nat):∀(l:List α) (i:Nat),(∀j x,x∈l->F j x ()=if 0<w x then some (.ret true)else some (.next ()))->cY F l i ()=some (if 0<cn w l then .inr true else .inl ())
 |[],i,_=>rfl|x::l,i,h=>by
  have c:=z6 w l (i+1) (λj y hy=>h j y (by simp[hy]));rw[cM,h i x th]
  by_cases a:0<w x
  ·rw[bX a,bX (show 0<cn w (x::l) by simp only[cn];omega)];rfl
  ·rw[bV a];show cY F l (i+1) ()=_;rw[c]
   by_cases b:0<cn w l
   ·rw[bX b,bX (show 0<cn w (x::l) by simp only[cn];omega)]
   ·rw[bV b,bV (show¬0<cn w (x::l) by simp only[cn];omega)]
def IP:∀(n:Nat) (t:Tm) (a:Int),t.acJ<=n->t.acJ<=1000000000->0<=a->a+t.acJ<=10000000000->si n t a=some (decide (0<t.acP a)):=by
 intro n
 induction n with
 |zero=>intro t a h;have:=t.cu;omega
 |succ n f=>
  intro t a h d o e;cases t with
  |mk k i s l=>
   rw[Tm.bY] at h d e;have p:=Tm.dm l;have q:=gi k;rw[si,Tm.ee];simp only[Tm.ck,Tm.dK,Tm.cx,cc,pW,ed,dX]
   by_cases c:k=1/\i=a
   ·rw[bX c,bX c]
    congr 1
    exact(r9 cw).symm
   ·rw[bV c,bV c,ch cw,b6,z6 (Tm.acP (a+dD k)) l 0 (λj x g=>by
     have m:=cy Tm.acJ g;rw[lL,bT,Tm.cx,cX cw cw,f x (a+dD k) cw cw cw cw,bT]
     by_cases b:0<x.acP (a+dD k)
     ·rw[bX b,bX (r9 b)]
     ·rw[bV b,bV (by simpa using b)]),bT,sA]
    by_cases b:0<cn (Tm.acP (a+dD k)) l
    ·rw[bX b,pJ,r9 b]
    ·rw[bV b,b9,AN b]
def zW:∀(n:Nat) (t:Fm) (a:Int),t.acJ<=n->t.acJ<=1000000000->0<=a->a+t.acJ<=10000000000->nW n t a=some (decide (0<t.acP a)):=by
 intro n
 induction n with
 |zero=>intro t a h;have:=t.cu;omega
 |succ n i=>
  intro t a h c o d;cases t with
  |mk k s ts l=>
   rw[Fm.bY] at h c d;have p:=Fm.dm l;have m:=Tm.dm ts;have q:=yP k;rw[nW,Fm.ee];simp only[Fm.ck,Fm.eI,cc]
   rw[ch cw,b6,z6 (Tm.acP a) ts 0 (λj x e=>by
    have f:=cy Tm.acJ e;rw[IP FU x a (by rw[cV];omega) cw cw cw,bT]
    by_cases b:0<x.acP a
    ·rw[bX b,bX (r9 b)]
    ·rw[bV b,bV (by simpa using b)]),bT]
   by_cases g:0<cn (Tm.acP a) ts
   ·rw[bX g,pJ,r9 cw]
   ·rw[bV g,b9,ch cw,b6,z6 (Fm.acP (a+qB k)) l 0 (λj x e=>by
     have f:=cy Fm.acJ e;rw[nP,bT,Fm.cx,cX cw cw,i x (a+qB k) cw cw cw cw,bT]
     by_cases b:0<x.acP (a+qB k)
     ·rw[bX b,bX (r9 b)]
     ·rw[bV b,bV (by simpa using b)]),bT]
    by_cases b:0<cn (Fm.acP (a+qB k)) l
    ·rw[bX b,pJ,r9 cw]
    ·rw[bV b,b9,AN cw]
def Tm.z8(s:Tm):∀(t:Tm) (n:Int),t.ok=true->t.acP n=0->Tm.e_ n t s=t.up (n+1) (-1):=by
 intro t
 induction t using Tm.ind with
 |h k i ty l g=>
  intro n d e;have hi:=Tm.jg d;rw[Tm.ee] at e;rw[Tm.fB,Tm.fx]
  by_cases a:k=1
  ·subst a;obtain⟨rfl,rfl⟩:=Tm.Ls d
   have b:i≠n:=λh=>by rw[bX ⟨rfl,h⟩] at e;omega
   rw[bX rfl];unfold Tm.mW;rw[bV b]
   by_cases f:n<i
   ·rw[bX f,bX ⟨rfl,cw⟩];rfl
   ·rw[bV f,bV (λh=>by omega)];rfl
  ·rw[bV a,bV (λh=>a h.1)]
   congr 1
   refine qg λx c=>?_;have:=cy (Tm.acP (n+dD k)) c;rw[g x c (n+dD k) (hi.2.2.2.1 x c) cw,show n+dD k+1=n+1+dD k by omega]
def Fm.z8(s:Tm):∀(t:Fm) (n:Int),t.ok=true->t.acP n=0->Fm.e_ n t s=t.up (n+1) (-1):=by
 intro t
 induction t using Fm.ind with
 |h k ty ts l b=>
  intro n c d;obtain⟨_,e,f⟩:=Fm.mz c;rw[Fm.ee] at d;rw[Fm.fB,Fm.fx]
  congr 1
  ·refine qg λx a=>?_;have:=cy (Tm.acP n) a;exact Tm.z8 s x n (e x a) cw
  ·refine qg λx a=>?_;have:=cy (Fm.acP (n+qB k)) a;rw[b x a (n+qB k) (f x a) cw,show n+qB k+1=n+1+qB k by omega]
def ID:∀(n:Nat) (t:Tm) (f:Int),t.acJ<=n->t.acJ<=1000000000->0<=f->f+t.acJ<=10000000000->t.acN 1000000000000=true->pO n t f (-1)=some (t.up f (-1)):=by
 intro n
 induction n with
 |zero=>intro t f h;have:=t.cu;omega
 |succ n o=>
  intro t f h a u b hi;cases t with
  |mk k i s l=>
   rw[Tm.bY] at h a b;rw[Tm.dn] at hi;simp only[ed,mH,ie] at hi;have w:=Tm.dm l;have y:=gi k;rw[pO];simp only[Tm.ck,Tm.dK,Tm.cx,Tm.cT,cc,ch (l:=l) cw,b6];rw[gG (Tm.up (f+dD k) (-1)) l 0 [] aae]
   ·rw[Tm.fx];simp only[bT,b9,mw,uv,Tm.mk.injEq,KH,zE]
    by_cases c:k=1/\f<=i
    ·obtain⟨rfl,d⟩:=c;rw[cX cw cw];have p:cr 1 1=true:=rfl
     have q:qf i f=true:=by simp[d]
     simp[p,q,d]
    ·rw[bV c]
     have e:dq (cr k 1) (qf i f) false=false:=by
      rw[pW,NW];simp only[ne_eq,ed,dX,fF];exact c
     rw[e];rfl
   ·intro j x v g r;have:=cy Tm.acJ g;rw[lL];simp only[bT,Tm.cx];rw[cX cw cw,o x (f+dD k) cw cw cw cw (hi.2 x g)];simp[dc (l:=v) (m:=[x.up (f+dD k) (-1)]) (by simpa using r)]
def AI:∀(n:Nat) (t:Fm) (f:Int),t.acJ<=n->t.acJ<=1000000000->0<=f->f+t.acJ<=10000000000->t.acN 1000000000000=true->ft n t f (-1)=some (t.up f (-1)):=by
 intro n
 induction n with
 |zero=>intro t f h;have:=t.cu;omega
 |succ n e=>
  intro t f h b g c hi;cases t with
  |mk k s ts l=>
   rw[Fm.bY] at h b c;rw[Fm.dn] at hi;simp only[ed,ie] at hi;have o:=Fm.dm l;have i:=Tm.dm ts;have p:=yP k;rw[ft];simp only[Fm.ck,Fm.eI,Fm.cx,Fm.cT,cc,ch (l:=l) cw,ch (l:=ts) cw,b6];rw[gG (Tm.up f (-1)) ts 0 [] aae]
   ·simp only[bT,b9];rw[gG (Fm.up (f+qB k) (-1)) l 0 [] aae]
    ·simp[Fm.fx]
    ·intro j x v a d;have:=cy Fm.acJ a;rw[nP];simp only[bT,Fm.cx];rw[cX cw cw,e x (f+qB k) cw cw cw cw (hi.2 x a)];simp[dc (l:=v) (m:=[x.up (f+qB k) (-1)]) (by simpa using d)]
   ·intro j x v a d;have:=cy Tm.acJ a;rw[ID FU x f (by rw[cV];omega) cw g cw (hi.1 x a)];simp[dc (l:=v) (m:=[x.up f (-1)]) (by simpa using d)]
def OH:DV Tm.z:=by
 show DV (Tm.mk 0 0 (Ty.mk 0 []) []);intro c b d;have a:FU=999999999+1:=cV;unfold pe mg;rw[a,eP,bV (show¬(cr (Tm.mk 0 0 (Ty.mk 0 []) []).acH 1=true) by decide)];simp only[Tm.cx,Tm.cT,Tm.ck,Tm.dK,cc];rw[kj gw,bT,ch gw,b6];rfl
def rl{f:Fm}(a:f.ok=true)(hn:f.acJ<=50000000)(b:f.acN 1000000000000=true)(c:f.acP 0=0):kK f 0 (Tm.mk 0 0 (Ty.mk 0 []) [])=some (f.up 1 (-1)):=by
 rw[show Tm.mk 0 0 (Ty.mk 0 []) []=Tm.z from rfl,sW a hn b OH cw cw,Fm.z8 _ f 0 a c];rfl
noncomputable def A3 (x:Tm) (e:Int):Tm×Int:=if e=0 then((x.norm 1000 0).1,(x.norm 1000 0).2.2)else(x,e)
def nY{α:Type}(f:α->Int->α×Int):List α->Int->List α×Int
 |[],e=>([],e)|x::l,e=>((f x e).1::(nY f l (f x e).2).1,(nY f l (f x e).2).2)
mutual
noncomputable def Fm.uU:Fm->Int->Fm×Int
 |.mk k s ts l,e=>(.mk k s (nY A3 ts e).1 (Fm.Lq l (nY A3 ts e).2).1,(Fm.Lq l (nY A3 ts e).2).2)
noncomputable def Fm.Lq:List Fm->Int->List Fm×Int
 |[],e=>([],e)|f::l,e=>((f.uU e).1::(Fm.Lq l (f.uU e).2).1,(Fm.Lq l (f.uU e).2).2)
end
def Fm.Nk:∀(l:List Fm) (e:Int),Fm.Lq l e=nY Fm.uU l e
 |[],e=>by rw[Fm.Lq,nY]|f::l,e=>by rw[Fm.Lq,nY,Fm.Nk l]
def Fm.A'(k:Int)(s:Ty)(ts:List Tm)(l:List Fm)(e:Int):(Fm.mk k s ts l).uU e=(.mk k s (nY A3 ts e).1 (nY Fm.uU l (nY A3 ts e).2).1,(nY Fm.uU l (nY A3 ts e).2).2):=by rw[Fm.uU,Fm.Nk]
def sk{α:Type}{f:α->Int->α×Int}:∀(l:List α) (e:Int),(∀x∈l,∀e,e≠0->(f x e).2=e)->e≠0->(nY f l e).2=e
 |[],e,_,_=>rfl|x::l,e,h,he=>by
  have a:=h x th e he;simp only[nY];rw[a];exact sk l e (λy hy=>h y (by simp[hy])) he
def EX{x:Tm}{e:Int}(he:e≠0):(A3 x e).2=e:=by unfold A3;rw[bV he]
def Fm.JC(f:Fm):∀e:Int,e≠0->(f.uU e).2=e:=by
 induction f using Fm.ind with
 |h k s ts l a=>
  intro e he;rw[Fm.A'];have b:=sk (f:=A3) ts e (λx _ e he=>EX he) he;simp only[];rw[b];exact sk l e a he
def BW{α ρ:Type}{E:α->Int->Option (α×Int)}{f:α->Int->α×Int}:∀(l:List α) (j:Nat) (v:List α) (e:Int),(∀x∈l,∀e,E x e=some (f x e))->v.length+l.length<=1000000000->cY (λ(k:Int) (c:α)=>(rD λ(v91:List α) (d:Int)=>
   b8 (E c d) λa b=>
   ef (dP v91 [a])<|some ((.next ((dN v91 [a]),b)):dJ ((List α)×Int) ρ))) l j (v,e)=some (.inl (v++(nY f l e).1,(nY f l e).2))
 |[],j,v,e,_,_=>by simp[nY]|x::l,j,v,e,h,m=>by
  simp only[jK] at m;rw[cM];simp only[rD];rw[h x th e];obtain⟨y,g,i⟩:∃y g,f x e=(y,g):=⟨_,_,rfl⟩;rw[i];rw[bW,dc aae,b6];simp only[bT,cS];rw[ei];have:=BW (ρ:=ρ) l (j+1) (v++[y]) g (λz n=>h z (by simp[n])) aae;rw[this];simp only[nY,i];simp
structure Nm (x:Tm):Prop where
 err:x.err=0
 acN:x.acN 536870912=true
def Nm.both{x:Tm}(h:Nm x):kg x 1000=some (x.norm 1000 0)/\j8 x 1000=some (x.norm 1000 0):=by
 obtain⟨b,hn⟩:=pk h.err;have hw:=x.eO b;have a:=vx (t:=x) cw 1000;rw[bX h.err,bX ⟨cw,cw,h.acN⟩] at a;obtain⟨p,m,e,c,d,_⟩:=w6 (t:=x) cw 1000;have a:kg x 1000=some (x.norm 1000 0):=a;refine⟨a,?_⟩;rw[d,<-c,a]
def yx{x:Tm}(h:Nm x)(b e:Int):kr x b e=some (A3 x e):=by
 unfold kr A3
 by_cases he:e=0
 ·rw[bX he,bV (by rw[cg];simpa using he),h.both.1];rfl
 ·rw[bV he,bX (by rw[cg];exact he)]
inductive O5:Fm->Prop
 |mk {k s ts l}:(∀x∈ts,Nm x)->(∀f∈l,O5 f)->O5 (.mk k s ts l)
def O5.of(f:Fm):f.acJ<=4096->f.ok=true->f.acN 536870912=true->O5 f:=by
 induction f using Fm.ind with
 |h k s ts l d=>
  intro hn e b;obtain⟨_,g,i⟩:=Fm.mz e;rw[Fm.bY] at hn;rw[Fm.dn,ed,ie,ie] at b;refine .mk (λx c=>⟨?_,b.1 x c⟩) (λf a=>?_)
  ·have:=cy Tm.acJ c;unfold Tm.err;rw[bX (g x c),bV cw]
  ·have:=cy Fm.acJ a;exact d f a cw (i f a) (b.2 f a)
def Ka:∀(n:Nat) (f:Fm) (b e:Int),f.acJ<=n->f.acJ<=1000000->f.ok=true->O5 f->cL n f b (λ(s:Int) (c:Tm) (d:Int)=>kr c d s) e=some (f.uU e):=by
 intro n
 induction n with
 |zero=>intro f b e h;have:=f.cu;omega
 |succ n m=>
  intro f b e hn o p hm;cases f with
  |mk k s ts l=>
   cases hm with
   |mk q r=>
    rw[Fm.bY] at hn o;have u:=eB Tm.acJ ts λt _=>t.cu;have v:=eB Fm.acJ l λt _=>t.cu;obtain⟨w,z,g⟩:=Fm.mz p;rw[cL,Fm.A'];simp only[Fm.cT,Fm.ck,Fm.cx,Fm.eI,cc];rw[kj cw,bT,ch cw,b6];rw[BW (E:=λy s=>kr y b s) (f:=A3) ts 0 [] e (λx a e=>yx (q x a) b e) aae,bT];simp only[b9,rD,mw];rw[jh,bT]
    have loop:=λi=>BW (ρ:=Fm×Int) (E:=λy s=>cL n y i (λ(s:Int) (c:Tm) (d:Int)=>kr c d s) s) (f:=Fm.uU) l 0 [] (nY A3 ts e).2 (λx a e=>by
     have:=cy Fm.acJ a
     exact m x i e cw cw (g x a) (r x a)) aae
    by_cases j:gL k=true
    ·rw[bX j,ch cw,b6,loop,bT];simp
    ·rw[bV j,ch cw,b6,loop,bT];simp
def Dc:∀(n:Nat) (f:Fm),f.acJ<=n->f.acJ<=1000000->O5 f->kR n f=some (if(f.uU 0).2=0 then((f.uU 0).1,0)else(eG,(f.uU 0).2)):=by
 intro n
 induction n with
 |zero=>intro f h;have:=f.cu;omega
 |succ n H=>
  intro f hn I hm;cases f with
  |mk k s ts l=>
   cases hm with
   |mk J K=>
    rw[Fm.bY] at hn I;have L:=eB Tm.acJ ts λt _=>t.cu;have M:=eB Fm.acJ l λt _=>t.cu;rw[kR,Fm.A'];simp only[Fm.cT,Fm.ck,Fm.cx,Fm.eI,cc];rw[ch cw,b6]
    have p:∀(us:List Tm) (j:Nat) (v:List Tm),(∀t∈us,Nm t)->v.length+us.length<=1000000000->cY (λ(N:Int) (B:Tm)=>(λ(w:List Tm)=>
       gM (j8 B 1000) λc E d=>
       if(cG d 0) then(
       some (.ret ((Fm.mk 0 (Ty.mk 0 []) [] []),d)))
       else(ef (dP w [c])<|some ((.next (dN w [c])):dJ (List Tm) (Fm×Int))))) us j v=some (if(nY A3 us 0).2=0 then .inl (v++(nY A3 us 0).1)else .inr (eG,(nY A3 us 0).2)):=by
     intro us
     induction us with
     |nil=>intro j v _ _;simp[nY]|cons t us q=>
      intro j v hm C;simp only[jK] at C;rw[cM,(hm t th).both.2]
      have D:A3 t 0=((t.norm 1000 0).1,(t.norm 1000 0).2.2):=by unfold A3;rw[bX rfl]
      obtain⟨y,m,a,z⟩:∃y m a,t.norm 1000 0=(y,m,a):=⟨_,_,_,rfl⟩;rw[z] at D|-;rw[mD]
      by_cases he:a=0
      ·subst he;rw[bV gw,dc aae,b6];simp only[bT,cS];rw[ei,q (j+1) (v++[y]) (λu hu=>hm u (by simp[hu])) aae];simp only[nY,D];simp
      ·rw[bX (by rw[cg];exact he)];simp only[nY,D];rw[sk (f:=A3) us a (λx _ e he=>EX he) he,bV he];rfl
    have r:∀(us:List Fm) (j:Nat) (v:List Fm),(∀t∈us,O5 t/\t.acJ<=n/\t.acJ<=1000000)->v.length+us.length<=1000000000->cY (λ(F:Int) (A:Fm)=>(λ(g:List Fm)=>
       b8 (kR n A) λi o=>
       if(cG o 0) then(
       some (.ret ((Fm.mk 0 (Ty.mk 0 []) [] []),o)))
       else(ef (dP g [i])<|some ((.next (dN g [i])):dJ (List Fm) (Fm×Int))))) us j v=some (if(nY Fm.uU us 0).2=0 then .inl (v++(nY Fm.uU us 0).1)else .inr (eG,(nY Fm.uU us 0).2)):=by
     intro us
     induction us with
     |nil=>intro j v _ _;simp[nY]|cons t us q=>
      intro j v hm C;simp only[jK] at C;obtain⟨a1,a2,a3⟩:=hm t th;rw[cM,H t a2 a3 a1];obtain⟨y,a,z⟩:∃y a,t.uU 0=(y,a):=⟨_,_,rfl⟩;rw[z]
      by_cases he:a=0
      ·subst he;simp only[if_true];rw[bW,bV gw,dc aae,b6];simp only[bT,cS];rw[ei,q (j+1) (v++[y]) (λu hu=>hm u (by simp[hu])) aae];simp only[nY,z];simp
      ·simp only[bV he];rw[bW,bX (by rw[cg];exact he)];simp only[nY,z];rw[sk (f:=Fm.uU) us a (λx _ e he=>Fm.JC x e he) he,bV he];rfl
    rw[p ts 0 [] J aae,bT]
    by_cases he:(nY A3 ts 0).2=0
    ·rw[bX he,b9,ch cw,b6,r l 0 [] (λt G=>by
      have:=cy Fm.acJ G
      exact⟨K t G,cw,cw⟩) aae,bT,he]
     by_cases b:(nY Fm.uU l 0).2=0
     ·rw[bX b,bX b,b9,mw,mw]
     ·rw[bV b,bV b,pJ]
    ·rw[bV he,pJ,sk (f:=Fm.uU) l _ (λx _ e he=>Fm.JC x e he) he,bV he]
def Ty.YN:∀(n:Nat) (s:Ty),s.acJ<=n->s.err=0->∃a,cQ [] a s:=by
 intro n
 induction n with
 |zero=>intro s h;have:=s.cu;omega
 |succ n c=>
  intro s hn he;rcases Ty.oY he with rfl|rfl|rfl|⟨a,b,rfl,e,d⟩|⟨a,b,rfl,e,d⟩
  ·exact⟨_,.zero⟩
  ·exact⟨_,.nil⟩
  ·exact⟨_,.unit⟩
  ·rw[Ty.sx] at hn;obtain⟨x,f⟩:=c a cw e;obtain⟨y,hy⟩:=c b cw d;exact⟨_,.pair he f hy⟩
  ·rw[Ty.g_] at hn;obtain⟨y,hy⟩:=c b cw d;exact⟨_,.lam he (by have:=hy.front [a];simpa using this)⟩
def eY.down{g:List Ty}{s:Ty}{f:Fm}(h:eY (g++[s]) f)(hs:s.err=0)(c:f.acP 0=0):eY g (f.up 1 (-1)):=by
 obtain⟨a,d⟩:=Ty.YN _ s (fC _) hs
 have b:cQ g a s:=by simpa using d.front g
 have:=h.put b
 rwa [Fm.z8 a f 0 h.ok c] at this
def cQ.nm{g:List Ty}{x:Tm}{t:Ty}(h:cQ g x t)(hg:g.length<=1000000)(a:x.acJ<=4096):Nm x:=by
 refine⟨?_,h.acN _ cw⟩;unfold Tm.err;rw[bX h.ok,bV cw]
def QS{g:List Ty}{x:Tm}{t:Ty}(h:cQ g x t)(hg:g.length<=1000000)(b:x.acJ<=4096){e:Int}(he:(A3 x e).2=0):e=0/\cQ g (A3 x e).1 t/\(A3 x e).1.acJ<=4096:=by
 by_cases c:e=0
 ·subst c;unfold A3 at he|-;simp only[if_true] at he|-;obtain⟨a,n,f,d⟩:∃a n f,x.norm 1000 0=(a,n,f):=⟨_,_,_,rfl⟩;rw[d] at he|-;simp only[] at he|-;subst he;exact⟨trivial,cQ.norm _ _ _ _ _ h d,(DB 1000 536870912 0 x a n cw (Sm.start (h.nm hg b).err (h.nm hg b).acN) b d).2⟩
 ·rw[EX c] at he;exact absurd he c
def S9(a b:Tm)(e:Int):(Fm.mk 1 .z [a,b] []).uU e=(.mk 1 .z [(A3 a e).1,(A3 b (A3 a e).2).1] [],(A3 b (A3 a e).2).2):=by rw[Fm.A'];rfl
def R2(k:Int)(a b:Fm)(e:Int):(Fm.mk k .z [] [a,b]).uU e=(.mk k .z [] [(a.uU e).1,(b.uU (a.uU e).2).1],(b.uU (a.uU e).2).2):=by rw[Fm.A'];rfl
def Yk(k:Int)(s:Ty)(a:Fm)(e:Int):(Fm.mk k s [] [a]).uU e=(.mk k s [] [(a.uU e).1],(a.uU e).2):=by rw[Fm.A'];rfl
def K_{g:List Ty}{f:Fm}(h:eY g f):∀(e:Int),g.length+f.acJ<=1000000->f.acJ<=4096->(f.uU e).2=0->e=0/\eY g (f.uU e).1/\(f.uU e).1.acJ<=3000*f.acJ:=by
 induction h with
 |@eq g a b c n=>
  intro e hg hn he;rw[S9] at he|-;rw[Fm.bY] at hn hg|-;simp only[cn] at hn hg|-;obtain⟨d,i,o⟩:=QS n cw cw he;obtain⟨a1,a2,a3⟩:=QS c cw cw d;refine⟨a1,.eq a2 i,?_⟩;rw[Fm.bY];simp only[cn];have:=a.cu;have:=b.cu;omega
 |@two g k a b j c n l m=>
  intro e hg hn he;rw[R2] at he|-;rw[Fm.bY] at hn hg|-;simp only[cn] at hn hg|-;obtain⟨d,i,o⟩:=m _ cw cw he;obtain⟨a1,a2,a3⟩:=l _ cw cw d;refine⟨a1,.two j a2 i,?_⟩;rw[Fm.bY];simp only[cn];omega
 |@q g k s a j hs c p=>
  intro e hg hn he;rw[Yk] at he|-;rw[Fm.bY] at hn hg|-;simp only[cn] at hn hg|-;obtain⟨a1,a2,a3⟩:=p _ aae cw he;refine⟨a1,.q j hs a2,?_⟩;rw[Fm.bY];simp only[cn];omega
noncomputable def A5 (f:Fm):Fm×Int:=if f.acP 0=0 then(f.up 1 (-1),0)else if(f.uU 0).2≠0 then(eG,(f.uU 0).2)else if(f.uU 0).1.acP 0≠0 then(eG,6)else((f.uU 0).1.up 1 (-1),0)
def Hw{g:List Ty}{s:Ty}{f:Fm}(h:Hg (g++[s]) f)(hg:g.length<=1000)(hs:s.err=0)(a:(A5 f).2=0):eY g (A5 f).1/\(A5 f).1.acJ<=3000*4096:=by
 have hn:=h.acJ;unfold A5 at a|-
 split
 ·rename_i c;refine⟨h.ty.down hs c,?_⟩;show(f.up 1 (-1)).acJ<=_;rw[Fm.nN];omega
 ·rename_i c;rw[bV c] at a
  split
  ·rename_i b;rw[bX b] at a;exact absurd a b
  ·rename_i b;rw[bV b] at a
   split
   ·rename_i d;rw[bX d] at a;cases a
   ·rename_i d;obtain⟨_,a2,a3⟩:=K_ h.ty 0 aae hn (uu.1 b);refine⟨a2.down hs cw,?_⟩;show((f.uU 0).1.up 1 (-1)).acJ<=_;rw[Fm.nN];omega
def tS{g:List Ty}{s:Ty}{f:Fm}(h:Hg (g++[s]) f)(hg:g.length<=1000):ny f=some (A5 f):=by
 have hn:=h.acJ;have k:f.acN 1000000000000=true:=h.ty.acN _ aae;unfold ny A5;rw[nO h.ok cw k cw cw,bT]
 by_cases d:f.acP 0=0
 ·rw[bX d,bX (by rw[dX];omega),rl h.ok cw k d];rfl
 ·rw[bV d,bV (by rw[dX];omega),Ka FU f 0 0 (by rw[cV];omega) cw h.ok (O5.of f hn h.ok (h.ty.acN _ aae))];obtain⟨a,e,i⟩:∃a e,f.uU 0=(a,e):=⟨_,_,rfl⟩;rw[i,bW];simp only[]
  by_cases he:e=0
  ·subst he;rw[bV gw,bV gw];have b:=K_ h.ty 0 aae hn (by rw[i]);rw[i] at b;obtain⟨_,a2,a3⟩:=b;have a2:eY (g++[s]) a:=a2;have a3:a.acJ<=3000*f.acJ:=a3;have c:a.acN 1000000000000=true:=a2.acN _ aae;rw[nO a2.ok cw c cw cw,bT]
   by_cases j:a.acP 0=0
   ·rw[bV (by rw[ep];omega),bV (by simpa using j),rl a2.ok cw c j];rfl
   ·rw[bX (by rw[ep];omega),bX j];rfl
  ·rw[bX (by rw[cg];exact he),bX he];rfl
abbrev PR:=(Fm×Nat)⊕Int
def pbind(r:PR)(k:Fm->Nat->PR):PR:=match r with|.inl p=>k p.1 p.2|.inr e=>.inr e
def tC(c:Prop)[Decidable c](e:Int)(r:PR):PR:=if c then .inr e else r
theorem iy{c:Prop}[Decidable c]{e:Int}{r:PR}(h:c):tC c e r=.inr e:=bX h
theorem jd{c:Prop}[Decidable c]{e:Int}{r:PR}(h:¬c):tC c e r=r:=bV h
def jc(e:Int)(r:PR):PR:=if e=0 then r else .inr e
@[simp] theorem dT(f:Fm)(m:Nat)(k:Fm->Nat->PR):pbind (.inl (f,m)) k=k f m:=rfl
@[simp] theorem Yy(e:Int)(k:Fm->Nat->PR):pbind (.inr e) k=.inr e:=rfl
theorem eX{e:Int}{r:PR}(h:e=0):jc e r=r:=bX h
theorem gj{e:Int}{r:PR}(h:e≠0):jc e r=.inr e:=bV h
noncomputable def zc (r:PR):PR:=pbind r λf m=>if f.err=0 then .inl (f,if f.has then m else 0)else .inr 4
def A9(r:PR)(k:Int):PR:=pbind r λf m=>if f.acH=k then .inl (f,m)else .inr 10
noncomputable def vB (a b:Fm):Int:=(jk a b).getD 0
noncomputable def Be (r:PR) (F:Fm) (t:Tm):PR:=pbind r λf m=>jc (lr F t).2 (jc (vB (lr F t).1 f) (.inl (f,m)))
def GY(t:Tm):Nat->Nat
 |0=>0|j+1=>if 0<t.acP j then GY t j|||2^j else GY t j
def pQ(t:Tm):Nat:=GY t 32
def GN(t:Tm):∀(n i:Nat),(GY t n).testBit i=true↔i<n/\0<t.acP i
 |0,i=>by simp[GY]|n+1,i=>by
  have c:=GN t n i;rw[GY]
  by_cases h:0<t.acP n
  ·rw[bX h,UI,pE,c,R7];simp only[mH];constructor
   ·rintro(⟨a,b⟩|rfl)
    ·exact⟨cw,b⟩
    ·exact⟨cw,h⟩
   ·rintro⟨a,b⟩
    by_cases hi:n=i
    ·exact .inr hi
    ·exact .inl ⟨cw,b⟩
  ·rw[bV h,c];constructor
   ·rintro⟨a,b⟩;exact⟨cw,b⟩
   ·rintro⟨a,b⟩;refine⟨?_,b⟩;rcases rI i n with hh|hh
    ·exact hh
    ·obtain rfl:i=n:=cw
     exact absurd b h
def NX(t:Tm)(i:Nat):(pQ t).testBit i=true↔i<32/\0<t.acP i:=GN t 32 i
def v0:Tm:=.mk 1 0 (.mk 0 []) []
def v1:Tm:=.mk 1 1 (.mk 0 []) []
noncomputable def nE (L:List Fm) (k i:Int) (s:Ty) (ts:List Tm) (fs:List Fm) (sub:Nat->List Ty->List Fm->PR) (g:List Ty) (hs:List Fm):PR:=
 let t:=ts.getD 0 Tm.z
 let F:=fs.getD 0 eG
 if k=1 then tC ((hs.length:Int)<=i) 8 (.inl (hs.getD (hs.length-1-i.toNat) eG,0))
 else if k=2 then tC ((L.length:Int)<=i) 9 (.inl (L.getD i.toNat eG,0))
 else if k=3 then pbind (sub 0 g hs) λa m=>pbind (sub 1 g hs) λb n=>.inl (.mk 2 .z [] [a,b],m|||n)
 else if k=4 then pbind (A9 (sub 0 g hs) 2) λa m=>.inl (a.acI.getD 0 eG,m)
 else if k=5 then pbind (A9 (sub 0 g hs) 2) λa m=>.inl (a.acI.getD 1 eG,m)
 else if k=6 then jc (F.ta g) (tC (16<hs.length+1) 3 (pbind (sub 0 g (hs++[F])) λb m=>.inl (.mk 3 .z [] [F,b],m)))
 else if k=7 then pbind (A9 (sub 0 g hs) 3) λa m=>pbind (sub 1 g hs) λb n=>jc (vB (a.acI.getD 0 eG) b) (.inl (a.acI.getD 1 eG,m|||n))
 else if k=8 then tC (16<g.length+1) 3 (pbind (sub 0 (g++[s]) (hs.map (Fm.up 0 1))) λb m=>.inl (.mk 4 s [] [b],m/2))
 else if k=12 then tC (16<g.length+1) 3 (pbind (sub 0 (g++[s]) (hs.map (Fm.up 0 1))) λb m=>tC (m.testBit 0=true) 12 (.inl (.mk 6 s [] [b],m/2)))
 else if k=9 then jc (t.ty g).2 (pbind (A9 (sub 0 g hs) 4) λa m=>tC ((t.ty g).1.iY a.b7=false) 7 (jc (lr (a.acI.getD 0 eG) t).2 (.inl ((lr (a.acI.getD 0 eG) t).1,m|||pQ t))))
 else if k=13 then jc (t.ty g).2 (pbind (A9 (sub 0 g hs) 6) λa m=>tC ((t.ty g).1.iY a.b7=false) 7 (jc (lr (a.acI.getD 0 eG) t).2 (.inl ((lr (a.acI.getD 0 eG) t).1,m))))
 else if k=10 then jc (F.ta g) (tC (F.acH≠5) 10 (jc (t.ty g).2 (tC ((t.ty g).1.iY F.b7=false) 7 (pbind (Be (sub 0 g hs) (F.acI.getD 0 eG) t) λ_ m=>.inl (F,m|||pQ t)))))
 else if k=14 then jc (F.ta g) (tC (F.acH≠7) 10 (jc (t.ty g).2 (tC ((t.ty g).1.iY F.b7=false) 7 (pbind (Be (sub 0 g hs) (F.acI.getD 0 eG) t) λ_ m=>.inl (F,m)))))
 else if k=11 then pbind (A9 (sub 0 g hs) 5) λa m=>tC (16<g.length+1\/16<hs.length+1) 3 (pbind (sub 1 (g++[a.b7]) (hs.map (Fm.up 0 1)++[a.acI.getD 0 eG])) λb n=>jc (A5 b).2 (.inl ((A5 b).1,m|||n/2)))
 else if k=15 then pbind (A9 (sub 0 g hs) 7) λa m=>tC (16<g.length+1\/16<hs.length+1) 3 (pbind (sub 1 (g++[a.b7]) (hs.map (Fm.up 0 1)++[a.acI.getD 0 eG])) λb n=>jc (A5 b).2 (tC (n.testBit 0=true) 12 (.inl ((A5 b).1,m|||n/2))))
 else if k=16 then jc (F.ta (g++[.nat])) (jc (mU t g 1) (pbind (Be (sub 0 g hs) F uI) λ_ m=>tC (16<g.length+1\/16<hs.length+1) 3 (
  pbind (Be (sub 1 (g++[.nat]) (hs.map (Fm.up 0 1)++[F])) (F.up 1 1) (uw v0)) λ_ n=>jc (lr F t).2 (.inl ((lr F t).1,(pQ t|||m)|||n/2)))))
 else if k=17 then jc (F.ta (g++[.lk])) (jc (mU t g 2) (pbind (Be (sub 0 g hs) F (.mk 7 0 .z [])) λ_ m=>tC (16<g.length+2\/16<hs.length+1) 3 (
  pbind (Be (sub 1 (g++[.nat]++[.lk]) (hs.map (Fm.up 0 2)++[F.up 1 1])) (F.up 1 2) (.mk 8 0 .z [v1,v0])) λ_ n=>jc (lr F t).2 (.inl ((lr F t).1,(pQ t|||m)|||n/4)))))
 else if k=18 then jc (mU t g 1) (.inl (.mk 1 .z [t,t] [],0))
 else if k=19 then jc (F.ta (g++[.nat])) (pbind (A9 (sub 0 g hs) 1) λa _=>pbind (Be (sub 1 g hs) F (a.cv.getD 0 Tm.z)) λ_ n=>jc (lr F (a.cv.getD 1 Tm.z)).2 (.inl ((lr F (a.cv.getD 1 Tm.z)).1,n)))
 else pbind (A9 (sub 0 g hs) 4) λa m=>tC ((a.acI.getD 0 eG).acH≠5) 10 (tC ((Ty.fn a.b7 (a.acI.getD 0 eG).b7).err≠0) 4 (tC ((lr (((a.acI.getD 0 eG).acI.getD 0 eG).up 2 1) (qj v1 v0)).2≠0) 4 (.inl (.mk 5 (Ty.fn a.b7 (a.acI.getD 0 eG).b7) [] [.mk 4 a.b7 [] [(lr (((a.acI.getD 0 eG).acI.getD 0 eG).up 2 1) (qj v1 v0)).1]],m))))
mutual
noncomputable def Pf.inf (L:List Fm):Pf->List Ty->List Fm->PR
 |.mk k i s ts fs l,g,hs=>zc (nE L k i s ts fs (Pf.rV L l) g hs)
noncomputable def Pf.rV (L:List Fm):List Pf->Nat->List Ty->List Fm->PR
 |[],_,_,_=>.inr 2|p::_,0,g,hs=>p.inf L g hs|_::l,n+1,g,hs=>Pf.rV L l n g hs
end
def Z9(g:List Ty)(s:PR)(k:Option (b0×Int))(r:Option (sh×Int)):Prop:=
 (∃e,e≠0/\s=.inr e/\k=some (⟨eG,0⟩,e)/\r=some (⟨eG,[]⟩,e))\/∃(f:Fm) (m:Nat) (l:List Int),s=.inl (f,m)/\k=some (⟨f,(m:Int)⟩,0)/\r=some (⟨f,l⟩,0)/\Us l m/\Hg g f
def jR(g:List Ty)(s:PR)(k:Option (b0×Int))(r:Option (Fm×List Int×Int)):Prop:=
 (∃e x f l,e≠0/\s=.inr e/\k=some (x,e)/\r=some (f,l,e))\/∃(f:Fm) (m:Nat) (l:List Int),s=.inl (f,m)/\k=some (⟨f,(m:Int)⟩,0)/\r=some (f,l,0)/\Us l m/\eY g f/\f.acJ<=15000000
theorem jR.no{g:List Ty}{s:PR}{k:Option (b0×Int)}{r:Option (Fm×List Int×Int)}{e:Int}{x:b0}{f:Fm}{l:List Int}(he:e≠0)(a:s=.inr e)(b:k=some (x,e))(c:r=some (f,l,e)):jR g s k r:=.inl ⟨e,x,f,l,he,a,b,c⟩
def jR.yes{g:List Ty}{s:PR}{k:Option (b0×Int)}{r:Option (Fm×List Int×Int)}{f:Fm}{m:Nat}{l:List Int}(a:s=.inl (f,m))(b:k=some (⟨f,(m:Int)⟩,0))(c:r=some (f,l,0))(d:Us l m)(e:eY g f)(h:f.acJ<=15000000):jR g s k r:=.inr ⟨f,m,l,a,b,c,d,e,h⟩
def jR.infer{g:List Ty}(hg:g.length<=16){s:PR}{k:Option (b0×Int)}{r:Option (Fm×List Int×Int)}(h:jR g s k r):Z9 g (zc s) (HA k) (H8 r):=by
 rcases h with⟨e,x,f,l,he,rfl,rfl,rfl⟩|⟨f,m,l,rfl,rfl,rfl,hu,b,hn⟩
 ·refine .inl ⟨e,he,rfl,?_,?_⟩
  ·unfold HA;rw[bW,bX (by rw[cg];exact he)];rfl
  ·unfold H8;rw[mD,bX (by rw[cg];exact he)];rfl
 ·have c:=b.ok;have hw:=f.eO c;have i:=b.acN 1000000000000 cw;have d:zc (.inl (f,m))=if f.err=0 then .inl (f,if f.has then m else 0)else .inr 4:=rfl;unfold HA H8;rw[bW,mD];simp only[cc];rw[bV gw,bV gw,er cw,iA cw,bT,bT]
  by_cases a:f.err=0
  ·rw[bV (by rw[cg];simp[a]),bV (by rw[cg];simp[a]),BS cw i,BB _ cw,d,bX a];rw[bV (show¬(f.err≠0) by simpa using a),bW,bW];cases f.has with
   |true=>exact .inr ⟨f,m,l,rfl,rfl,rfl,hu,⟨a,b⟩⟩|false=>exact .inr ⟨f,0,[],rfl,rfl,rfl,.nil,⟨a,b⟩⟩
  ·rw[bX (by rw[cg];exact a),bX (by rw[cg];exact a),d,bV a];exact .inl ⟨4,gw,rfl,rfl,rfl⟩
def gC(L:List Fm)(P:Pf)(N:Nat):Prop:=∀n n',N<=n->N<=n'->∀p c,PG L p c->Z9 c.acL (P.inf L c.acL c.acO) (cR n L P p) (cA n' c P)
def LQ{f:Fm}{m:Nat}{k:Int}(h:f.acH=k):A9 (.inl (f,m)) k=.inl (f,m):=by grind[A9,dT]
def aaP{f:Fm}{m:Nat}{k:Int}(h:f.acH≠k):A9 (.inl (f,m)) k=.inr 10:=by grind[A9,dT]
def k0{g:List Ty}{s:PR}{n:Nat}{L:List Fm}{P:Pf}{p:cm}{r:Option (sh×Int)}(h:Z9 g s (cR n L P p) r)(k:Int):(∃e,e≠0/\A9 s k=.inr e/\cU (n+1) L P p k=some (⟨eG,0⟩,e)/\((r=some (⟨eG,[]⟩,e))\/∃f l m,r=some (⟨f,l⟩,0)/\f.acH≠k/\e=10/\Us l m))\/∃(f:Fm) (m:Nat) (l:List Int),A9 s k=.inl (f,m)/\cU (n+1) L P p k=some (⟨f,(m:Int)⟩,0)/\r=some (⟨f,l⟩,0)/\Us l m/\Hg g f/\f.acH=k:=by
 rcases h with⟨e,he,a,d,b⟩|⟨f,m,l,a,d,b,hu,i⟩
 ·refine .inl ⟨e,he,by rw[a];rfl,?_,.inl b⟩
  grind[cU,bW,pW,dX]
 ·by_cases c:f.acH=k
  ·grind[A9,dT,cU,bW,pW,cg]
  ·refine .inl ⟨10,gw,by rw[a];unfold A9;rw[dT,bV c],?_,.inr ⟨f,l,m,b,c,rfl,hu⟩⟩;rw[cU,d,bW,bX (by rw[pW,ed,cg,dX];exact⟨rfl,c⟩)];rfl
def IS{a b:Fm}(d:a.wt<=1000000000)(e:b.wt<=1000000000):jk a b=some (vB a b)/\ki a b=some (vB a b):=by
 obtain⟨c,f,g⟩:=zK d e
 have:vB a b=c:=by unfold vB;rw[f];rfl
 grind
structure qk (g:List Ty) (F:Fm) (t:Tm):Prop where
 fe:F.err=0
 te:t.err=0
 ty:∃s,eY (g++[s]) F/\cQ g t s
def qk.put{g:List Ty}{F:Fm}{t:Tm}(h:qk g F t):eY g (Fm.e_ 0 F t):=by
 obtain⟨s,a,b⟩:=h.ty;exact a.put b
def qk.both{g:List Ty}{F:Fm}{t:Tm}(h:qk g F t)(hg:g.length<=100):gI F t=some (lr F t)/\gU F t=some (lr F t):=by
 obtain⟨s,c,d⟩:=h.ty;obtain⟨_,a2⟩:=Fm.ea h.fe;obtain⟨_,e⟩:=Tm.ea h.te;have a:F.acN 536870912=true:=c.acN _ aae;have b:t.acN 536870912=true:=d.acN _ cw;refine⟨FP h.fe h.te (Fm.iB F cw a) (Tm.iB t cw b),?_⟩;unfold gU;rw[Er h.fe h.te a b h.put.ok];rfl
theorem mo(F:Fm)(t:Tm):lr F t=(eG,4)\/(Fm.e_ 0 F t).acJ<=4096/\lr F t=(Fm.e_ 0 F t,0):=by
 unfold lr
 split
 ·exact .inl rfl
 ·grind
def qO{g:List Ty}(hg:g.length<=16){s:PR}{n n':Nat}{L:List Fm}{P:Pf}{p:cm}{c:bZ}(h:Z9 g s (cR n L P p) (cA n' c P)){F:Fm}{t:Tm}(q:qk g F t):(∃e x l m,e≠0/\Be s F t=.inr e/\c6 (n+1) L P p F t=some (x,e)/\dd (n'+1) c P F t=some (l,e)/\Us l m)\/∃(f:Fm) (m:Nat) (l:List Int),Be s F t=.inl (f,m)/\c6 (n+1) L P p F t=some (⟨f,(m:Int)⟩,0)/\dd (n'+1) c P F t=some (l,0)/\Us l m:=by
 obtain⟨i,k2⟩:=q.both cw;rcases h with⟨e,he,j,k,o⟩|⟨f,m,l,j,k,o,hu,r⟩
 ·refine .inl ⟨e,⟨eG,0⟩,[],0,he,by rw[j];rfl,?_,?_,.nil⟩
  ·rw[c6,k,bW,bX (by rw[cg];exact he)];rfl
  ·rw[dd,o,bW,bX (by rw[cg];exact he)]
 ·rcases mo F t with d|⟨hn,d⟩
  ·rw[d] at i k2;refine .inl ⟨4,⟨eG,0⟩,[],0,gw,?_,?_,?_,.nil⟩
   ·rw[j];unfold Be;rw[dT,d];rfl
   ·rw[c6,k,bW,bV gw,i,bW,bX gw];rfl
   ·rw[dd,o,bW,bV gw,k2,bW,bX gw]
  ·rw[d] at i k2;have B:=Fm.eO _ q.put.ok;have C:=Fm.eO _ r.ok;have u:=r.acJ;obtain⟨v,w⟩:=IS (a:=Fm.e_ 0 F t) (b:=f) cw cw
   have y:Be s F t=jc (vB (Fm.e_ 0 F t) f) (.inl (f,m)):=by rw[j];unfold Be;rw[dT,d,eX rfl]
   have z:c6 (n+1) L P p F t=some (⟨f,(m:Int)⟩,vB (Fm.e_ 0 F t) f):=by
    rw[c6,k,bW,bV gw,i,bW,bV gw,v,bT]
   have A:dd (n'+1) c P F t=some (l,vB (Fm.e_ 0 F t) f):=by
    rw[dd,o,bW,bV gw,k2,bW,bV gw,w,bT]
   rw[y,z,A]
   by_cases hm:vB (Fm.e_ 0 F t) f=0
   ·rw[eX hm,hm];exact .inr ⟨f,m,l,rfl,rfl,rfl,hu⟩
   ·rw[gj hm];exact .inl ⟨_,_,_,m,hm,rfl,rfl,rfl,hu⟩
theorem yb{g:List Ty}(h:fQ g)(hg:g.length<=16):uA g=0:=by
 unfold uA;rw[bV cw]
 induction g with
 |nil=>rfl|cons s g a=>
  have b:=h s th;simp only[mL,dp];rw[bX b];exact a (λx c=>h x (by simp[c])) (by simp at hg;omega)
def qs{g:List Ty}(a:fQ g)(hg:g.length<=17){F:Fm}(hF:F.err=0):cN FU (g.map qw) F=some (F.ta g)/\iL g F=some (F.ta g)/\(g.length<=16->gP g F=some (F.ta g)):=by
 obtain⟨a1,a2⟩:=Fm.ea hF;have hw:=F.eO a1;refine⟨ud F a1 FU (by rw[cV];omega) g a cw a2,?_,λb=>?_⟩
 ·unfold iL;rw[iA cw,hF,bT,bV gw,xO F a1 FU (by rw[cV];omega) g a cw a2];rfl
 ·rw[pT cw cw (λt c=>by have:=df (a t c);omega)];unfold Cq
  grind[yb]
def k6{g:List Ty}(a:fQ g)(hg:g.length<=16){t:Tm}(b:t.err=0):cO FU (g.map qw) t=some (Gg (t.ty g))/\iH g t=some (t.ty g):=by
 obtain⟨a1,a2⟩:=Tm.ea b;refine⟨vw a1 a cw,?_⟩;unfold iH;rw[qv g cw (λt b=>by have:=df (a t b);omega),yb a hg,xx a1 a2 a cw];rfl
def has_both{g:List Ty}(b:fQ g)(hg:g.length<=16){c:bZ}(a:c.acL=g){t:Tm}(d:t.err=0)(k:Int):hQ (g.map qw) t k=some (mU t g k)/\eR c t k=some (mU t g k):=by
 obtain⟨a1,a2⟩:=Tm.ea d;refine⟨yN k a1 b cw,?_⟩;unfold eR mU;rw[a,(k6 b hg d).2]
 grind[bW,cg]
def u6{g:List Ty}(hg:g.length<=16){t:Tm}{s:Ty}(h:cQ g t s)(b:t.err=0):∃l,jv t=some (pQ t:Int)/\iv t=some l/\Us l (pQ t):=by
 obtain⟨a1,a2⟩:=Tm.ea b;have a:∀j:Int,32<=j->t.acP j=0:=λj e=>h.Me j cw;obtain⟨l,m,f,k,c,d⟩:=SF b (h.acN _ cw) a
 have:m=pQ t:=by
  refine YL λi=>?_;rw[AS,<-c.mem i,d,NX]
  grind
 grind
def nz:¬cG 0 0=true:=gw
def om(n:Nat)(a0:List Fm)(a1:Pf)(a2:cm):Option (b0×Int):=
 if cr a1.acH 1 then tk a0 a1 a2 else(if cr a1.acH 2 then re a0 a1 a2 else(if cr a1.acH 3 then lE n a0 a1 a2 else(if cr a1.acH 4 then gn n a0 a1 a2 else(if cr a1.acH 5 then gn n a0 a1 a2 else(if cr a1.acH 6 then lA n a0 a1 a2 else(if cr a1.acH 7 then lC n a0 a1 a2 else(if cr a1.acH 8 then fY n a0 a1 a2 else(if cr a1.acH 12 then fY n a0 a1 a2 else(if cr a1.acH 9 then fT n a0 a1 a2 else(if cr a1.acH 13 then fT n a0 a1 a2 else(if cr a1.acH 10 then gq n a0 a1 a2 else(if cr a1.acH 14 then gq n a0 a1 a2 else(if cr a1.acH 11 then gm n a0 a1 a2 else(if cr a1.acH 15 then gm n a0 a1 a2 else(if cr a1.acH 16 then mj n a0 a1 a2 else(if cr a1.acH 17 then mj n a0 a1 a2 else(if cr a1.acH 18 then rM a0 a1 a2 else(if cr a1.acH 19 then lb n a0 a1 a2 else(if cr a1.acH 20 then mT n a0 a1 a2 else none)))))))))))))))))))
def aa7(n:Nat)(L:List Fm)(P:Pf)(p:cm):cR (n+1) L P p=HA (om n L P p):=by rw[cR];rfl
def aa'(n:Nat)(c:bZ)(P:Pf):cA (n+1) c P=H8 (cp n c P):=by rw[cA];rfl
def Pf.iT(L:List Fm)(k i:Int)(s:Ty)(ts:List Tm)(fs:List Fm)(l:List Pf)(g:List Ty)(hs:List Fm):(Pf.mk k i s ts fs l).inf L g hs=zc (nE L k i s ts fs (Pf.rV L l) g hs):=by rw[Pf.inf]
def gC.of{L:List Fm}{k i:Int}{s:Ty}{ts:List Tm}{fs:List Fm}{l:List Pf}{N:Nat}
  (H:∀n n',N<=n->N<=n'->∀p c,PG L p c->jR c.acL (nE L k i s ts fs (Pf.rV L l) c.acL c.acO) (om (n+4) L (.mk k i s ts fs l) p) (cp (n'+4) c (.mk k i s ts fs l))):gC L (.mk k i s ts fs l) (N+5):=by
 intro n n' hn b p c h;obtain⟨m,rfl⟩:∃m,n=m+5:=⟨n-5,cw⟩;obtain⟨a,rfl⟩:∃a,n'=a+5:=⟨n'-5,cw⟩;exact jR.infer h.pl.nv (H m a cw cw p c h)
def Zu(n:Nat)(c:bZ)(i:Int):cp (n+1) c (.mk 1 i .z [] [] [])=if(qf i (cE c.acO)) then some (eG,[],8)else bU (cq c.acO (di .i64 (di .i64 (cE c.acO) 1) i)) λa=>some (a,[],0):=by rw[cp];rfl
def QN(L:List Fm)(i:Int)(g:List Ty)(hs:List Fm):nE L 1 i .z [] [] (Pf.rV L []) g hs=tC ((hs.length:Int)<=i) 8 (.inl (hs.getD (hs.length-1-i.toNat) eG,0)):=rfl
def Z1(n:Nat)(L:List Fm)(i:Int)(p:cm):om n L (.mk 1 i .z [] [] []) p=b8 (lO p i) λa b=>if b then some (⟨a,0⟩,0)else some (⟨eG,0⟩,8):=rfl
def Qm{L:List Fm}{i:Int}(hi:0<=i):gC L (.mk 1 i .z [] [] []) 5:=by
 refine gC.of (N:=0) λn n' _ _ p c h=>?_;rw[Zu,QN,Z1];have g:=h.pl.L4 hi
 by_cases e:(c.acO.length:Int)<=i
 ·grind[iy,bW,qf,cE,fF,dE,jR.no]
 ·rw[bV e] at g;obtain⟨f,d,k⟩:=g;rw[jd e,k,bW,bX rfl,bV (show¬(qf i (cE c.acO)=true) by rw[fF,dE];exact e),d,bT];have l:=h.pl.nh;rw[dE,dh (a:=(c.acO.length:Int)) cw cw,dh cw cw] at d
  have b:c.acO.length-1-i.toNat<c.acO.length:=cw
  rw[show(c.acO.length:Int)-1-i=((c.acO.length-1-i.toNat:Nat):Int) by omega,gu,lV b] at d
  have m:c.acO.getD (c.acO.length-1-i.toNat) eG=f:=by grind
  have j:=h.acO f (by rw[<-gv d];exact AY b);exact jR.yes (by rw[m]) rfl rfl .nil j.ty (by have:=j.acJ;omega)
def Yf(n:Nat)(c:bZ)(i:Int):cp (n+1) c (.mk 2 i .z [] [] [])=if(qf i (cE c.lemmas)) then some (eG,[],9)else bU (cq c.lemmas i) λa=>some (a,[],0):=by rw[cp];rfl
def TK(L:List Fm)(i:Int)(g:List Ty)(hs:List Fm):nE L 2 i .z [] [] (Pf.rV L []) g hs=tC ((L.length:Int)<=i) 9 (.inl (L.getD i.toNat eG,0)):=rfl
def Yo(n:Nat)(L:List Fm)(i:Int)(p:cm):om n L (.mk 2 i .z [] [] []) p=if(qf i (cE L)) then some (⟨eG,0⟩,9)else bU (cq L i) λa=>some (⟨a,0⟩,0):=rfl
def Rr{L:List Fm}{i:Int}(hi:0<=i):gC L (.mk 2 i .z [] [] []) 5:=by
 refine gC.of (N:=0) λn n' _ _ p c h=>?_;rw[Yf,TK,Yo,h.Ib]
 by_cases b:(L.length:Int)<=i
 ·grind[iy,fF,dE,jR.no]
 ·obtain⟨k,rfl⟩:∃k:Nat,i=k:=⟨i.toNat,cw⟩
  have a:k<L.length:=cw
  rw[jd b,bV (by rw[fF,dE];exact b),bV (by rw[fF,dE];exact b),gu,lV a,bT,bT]
  have e:L.getD (k:Int).toNat eG=L[k]:=by grind
  have d:=h.WC _ (AY a);exact jR.yes (by rw[e]) rfl rfl .nil (by simpa using d.ty.front c.acL) (by have:=d.acJ;omega)
def V9(n:Nat)(c:bZ)(a b:Pf):cp (n+1) c (.mk 3 0 .z [] [] [a,b])=b8 (cA n c a) λd e=>if(cG e 0) then some (eG,[],e)else b8 (cA n c b) λf g=>bU (gf 2 d.cf f.cf) λh=>bU (dZ d.eD f.eD) λi=>some (h,i,g):=by rw[cp];rfl
def L9(L:List Fm)(a b:Pf)(g:List Ty)(hs:List Fm):nE L 3 0 .z [] [] (Pf.rV L [a,b]) g hs=pbind (a.inf L g hs) λf m=>pbind (b.inf L g hs) λc n=>.inl (.mk 2 .z [] [f,c],m|||n):=rfl
def U1(n:Nat)(L:List Fm)(a b:Pf)(p:cm):om (n+1) L (.mk 3 0 .z [] [] [a,b]) p=b8 (cR n L a p) λc d=>if(cG d 0) then some (⟨eG,0⟩,d)else b8 (cR n L b p) λe f=>if(cG f 0) then some (⟨eG,0⟩,f)else some (⟨.mk 2 .z [] [c.cf,e.cf],tZ .u32 c.eD e.eD⟩,0):=by
 show lE (n+1) L (.mk 3 0 .z [] [] [a,b]) p=_;rw[lE];rfl
def L7:eG.wt<=1000000:=gw
def OQ{L:List Fm}{a b:Pf}{N:Nat}(t:gC L a N)(u:gC L b N):gC L (.mk 3 0 .z [] [] [a,b]) (N+5):=by
 refine gC.of λn n' hn v p c h=>?_;rw[V9,L9,U1];rcases t (n+3) (n'+3) cw cw p c h with⟨e,he,d,g,i⟩|⟨f,m,l,d,g,i,hu,o⟩
 ·rw[d,g,i,bW,bW,bX (by rw[cg];exact he),bX (by rw[cg];exact he)];exact jR.no he rfl rfl rfl
 ·have w:=o.acJ;have x:=f.eO o.ok;rw[d,g,i,bW,bW,bV gw,bV gw,dT];rcases u (n+3) (n'+3) cw cw p c h with⟨e,he,d,g,i⟩|⟨y,C,D,d,g,i,k,j⟩
  ·obtain⟨q,q1,_⟩:=hu.union .nil (by have:=hu.len;omega) th;have:=L7;rw[d,g,i,bW,bW,bX (by rw[cg];exact he)];simp only[];rw[sX cw cw,bT,q1];exact jR.no he rfl rfl rfl
  ·have r:=j.acJ;have s:=y.eO j.ok;obtain⟨q,q1,A,B,_⟩:=hu.union k (by have:=hu.len;omega) (by have:=k.len;omega);rw[d,g,i,bW,bW,bV gw,dT];simp only[];rw[sX cw cw,bT,q1,A];refine jR.yes rfl rfl rfl B (.two (.inl rfl) o.ty j.ty) ?_;rw[Fm.bY];simp only[cn];omega
def eY.E1{g:List Ty}{f:Fm}(h:eY g f){k:Int}(d:f.acH=k)(e:k=2\/k=3):∃a b,f=.mk k .z [] [a,b]/\eY g a/\eY g b:=by
 cases h with
 |eq _ _=>grind[Fm.cx]|two c i j=>grind[Fm.cx]|q c _ _=>grind[Fm.cx]
def eY.tJ{g:List Ty}{f:Fm}(h:eY g f){k:Int}(d:f.acH=k)(e:k=4\/k=5\/k=6\/k=7):∃s a,f=.mk k s [] [a]/\s.err=0/\eY (g++[s]) a:=by
 cases h with
 |eq _ _=>grind[Fm.cx]|two b c i=>grind[Fm.cx]|q b hs c=>grind[Fm.cx]
def eY.TW{g:List Ty}{f:Fm}(h:eY g f)(i:f.acH=1):∃a b,f=.mk 1 .z [a,b] []/\cQ g a .nat/\cQ g b .nat:=by
 cases h with
 |eq d e=>grind|two c d e=>simp_all|q c hs d=>simp_all
def Hg.sub{g a:List Ty}{k:Int}{s:Ty}{ts:List Tm}{l:List Fm}(h:Hg g (.mk k s ts l)){x:Fm}(c:x∈l)(b:eY a x):Hg a x:=by
 have d:=h.acJ;rw[Fm.bY] at d;have:=cy Fm.acJ c;refine⟨?_,b⟩;unfold Fm.err;rw[bX b.ok,bV cw]
def WN(n:Nat)(c:bZ)(a:Pf):cp (n+1) c (.mk 4 0 .z [] [] [a])=b8 (cA n c a) λb d=>if(cG d 0) then some (eG,[],d)else if(cG b.cf.acH 2) then some (eG,[],10)else bU (cq b.cf.acI (di .i64 4 4)) λe=>some (e,b.eD,0):=by rw[cp];rfl
def Wa(n:Nat)(c:bZ)(a:Pf):cp (n+1) c (.mk 5 0 .z [] [] [a])=b8 (cA n c a) λb d=>if(cG d 0) then some (eG,[],d)else if(cG b.cf.acH 2) then some (eG,[],10)else bU (cq b.cf.acI (di .i64 5 4)) λe=>some (e,b.eD,0):=by rw[cp];rfl
def MH(L:List Fm)(a:Pf)(g:List Ty)(hs:List Fm):nE L 4 0 .z [] [] (Pf.rV L [a]) g hs=pbind (A9 (a.inf L g hs) 2) λf m=>.inl (f.acI.getD 0 eG,m):=rfl
def L1(L:List Fm)(a:Pf)(g:List Ty)(hs:List Fm):nE L 5 0 .z [] [] (Pf.rV L [a]) g hs=pbind (A9 (a.inf L g hs) 2) λf m=>.inl (f.acI.getD 1 eG,m):=rfl
def VJ(n:Nat)(L:List Fm)(a:Pf)(p:cm):om (n+1) L (.mk 4 0 .z [] [] [a]) p=b8 (cU n L a p 2) λb c=>if(cG c 0) then some (⟨eG,0⟩,c)else bU (cq b.cf.acI 0) λd=>some (⟨d,b.eD⟩,0):=by
 show gn (n+1) L (.mk 4 0 .z [] [] [a]) p=_;rw[gn];rfl
def U'(n:Nat)(L:List Fm)(a:Pf)(p:cm):om (n+1) L (.mk 5 0 .z [] [] [a]) p=b8 (cU n L a p 2) λb c=>if(cG c 0) then some (⟨eG,0⟩,c)else bU (cq b.cf.acI 1) λd=>some (⟨d,b.eD⟩,0):=by
 show gn (n+1) L (.mk 5 0 .z [] [] [a]) p=_;rw[gn];rfl
def OU{L:List Fm}{a:Pf}{N:Nat}(o:gC L a N):gC L (.mk 4 0 .z [] [] [a]) (N+5):=by
 refine gC.of λn n' hn q p c h=>?_;rw[WN,MH,VJ];rcases k0 (o (n+2) (n'+3) cw cw p c h) 2 with⟨e,he,d,g,b⟩|⟨f,m,l,d,g,b,hu,j,i⟩
 ·rw[d,g,bW,bX (by rw[cg];exact he)];rcases b with b|⟨f,l,m,b,i,rfl,_⟩
  ·rw[b,bW,bX (by rw[cg];exact he)];exact jR.no he rfl rfl rfl
  ·rw[b,bW,bV gw,bX (by rw[cg];exact i)];exact jR.no he rfl rfl rfl
 ·obtain⟨x,y,rfl,k,hy⟩:=j.ty.E1 i (.inl rfl);rw[d,g,b,bW,bW,bV gw,bV th,dT];exact jR.yes (f:=x) rfl rfl rfl hu k (by have:=(j.sub th k).acJ;omega)
def NZ{L:List Fm}{a:Pf}{N:Nat}(k:gC L a N):gC L (.mk 5 0 .z [] [] [a]) (N+5):=by
 refine gC.of λn n' hn o p c h=>?_;rw[Wa,L1,U'];rcases k0 (k (n+2) (n'+3) cw cw p c h) 2 with⟨e,he,d,g,b⟩|⟨f,m,l,d,g,b,hu,j,i⟩
 ·rw[d,g,bW,bX (by rw[cg];exact he)];rcases b with b|⟨f,l,m,b,i,rfl,_⟩
  ·rw[b,bW,bX (by rw[cg];exact he)];exact jR.no he rfl rfl rfl
  ·rw[b,bW,bV gw,bX (by rw[cg];exact i)];exact jR.no he rfl rfl rfl
 ·obtain⟨x,y,rfl,q,hy⟩:=j.ty.E1 i (.inl rfl);rw[d,g,b,bW,bW,bV gw,bV th,dT];exact jR.yes (f:=y) rfl rfl rfl hu hy (by have:=(j.sub th hy).acJ;omega)
def Ww(n:Nat)(c:bZ)(F:Fm)(a:Pf):cp (n+1) c (.mk 6 0 .z [] [F] [a])=bU (gP c.acL F) λb=>if(cG b 0) then some (eG,[],b)else bU (cF c 0 1) λd=>if(cG d 0) then some (eG,[],d)else bU (dU c F) λf=>b8 (cA n f a) λe g=>bU (gf 3 F e.cf) λh=>some (h,e.eD,g):=by rw[cp];rfl
def KS(L:List Fm)(F:Fm)(a:Pf)(g:List Ty)(hs:List Fm):nE L 6 0 .z [] [F] (Pf.rV L [a]) g hs=jc (F.ta g) (tC (16<hs.length+1) 3 (pbind (a.inf L g (hs++[F])) λb m=>.inl (.mk 3 .z [] [F,b],m))):=rfl
def Wy(n:Nat)(L:List Fm)(F:Fm)(a:Pf)(p:cm):om (n+1) L (.mk 6 0 .z [] [F] [a]) p=bU (cN FU p.acL F) λb=>if(cG b 0) then some (⟨eG,0⟩,b)else bU (cK p.ey 0 1) λc=>if(cG c 0) then some (⟨eG,0⟩,c)else bU (dV p F) λf=>b8 (cR n L a f) λd e=>if(cG e 0) then some (⟨eG,0⟩,e)else some (⟨.mk 3 .z [] [F,d.cf],d.eD⟩,0):=by
 show lA (n+1) L (.mk 6 0 .z [] [F] [a]) p=_;rw[lA];rfl
def OI{L:List Fm}{F:Fm}(hF:F.err=0){a:Pf}{N:Nat}(u:gC L a N):gC L (.mk 6 0 .z [] [F] [a]) (N+5):=by
 refine gC.of λn n' hn w p c h=>?_;rw[Ww,KS,Wy];have j:=h.pl.nv;obtain⟨t1,_,t2⟩:=qs h.pl.ctx cw hF;have x:=(Fm.ea hF).2;have y:=F.eO (Fm.ea hF).1;rw[h.pl.acL,t1,t2 j,bT,bT]
 by_cases b:F.ta c.acL=0
 ·rw[bV (by rw[cg];simpa using b),bV (by rw[cg];simpa using b),eX b];have i:=pj F (Fm.ea hF).1 c.acL h.pl.ctx b;rcases h.room (v:=0) (k:=1) cw cw with⟨d,g,_,t⟩|⟨d,g,t⟩
  ·have d:cK p.ey 0 1=some 0:=d;have g:cF c 0 1=some 0:=g;rw[d,g,bT,bT,bV gw,bV gw,jd cw];obtain⟨A,B,C,D,E,G,H⟩:=h.with ⟨hF,i⟩ t;rw[C,D,bT,bT];have hi:=u (n+3) (n'+3) cw cw A B E;rw[G,H] at hi;rcases hi with⟨e,he,o,q,r⟩|⟨f,m,l,o,q,r,hu,s⟩
   ·have:=L7;rw[o,q,r,bW,bW,bX (by rw[cg];exact he)];simp only[];rw[sX cw cw];exact jR.no he rfl rfl rfl
   ·have I:=s.acJ;have J:=f.eO s.ok;rw[o,q,r,bW,bW,bV gw];simp only[];rw[sX cw cw];refine jR.yes rfl rfl rfl hu (.two (.inr rfl) i s.ty) ?_;rw[Fm.bY];simp only[cn];omega
  ·have d:cK p.ey 0 1=some 3:=d;have g:cF c 0 1=some 3:=g;rw[d,g,bT,bT,bX gw,bX gw,iy cw];exact jR.no gw rfl rfl rfl
 ·rw[bX (by rw[cg];exact b),bX (by rw[cg];exact b),gj b];exact jR.no b rfl rfl rfl
def VT(n:Nat)(c:bZ)(a b:Pf):cp (n+1) c (.mk 7 0 .z [] [] [a,b])=b8 (cA n c a) λd e=>if(cG e 0) then some (eG,[],e)else if(cG d.cf.acH 3) then some (eG,[],10)else b8 (cA n c b) λf g=>if(cG g 0) then some (eG,[],g)else bU (cq d.cf.acI 1) λh=>bU (dZ d.eD f.eD) λi=>bU (cq d.cf.acI 0) λj=>bU (ki j f.cf) λk=>some (h,i,k):=by rw[cp];rfl
def Mj(L:List Fm)(a b:Pf)(g:List Ty)(hs:List Fm):nE L 7 0 .z [] [] (Pf.rV L [a,b]) g hs=pbind (A9 (a.inf L g hs) 3) λa m=>pbind (b.inf L g hs) λb n=>jc (vB (a.acI.getD 0 eG) b) (.inl (a.acI.getD 1 eG,m|||n)):=rfl
def WA(n:Nat)(L:List Fm)(a b:Pf)(p:cm):om (n+1) L (.mk 7 0 .z [] [] [a,b]) p=b8 (cU n L a p 3) λc d=>if(cG d 0) then some (⟨eG,0⟩,d)else b8 (cR n L b p) λe f=>if(cG f 0) then some (⟨eG,0⟩,f)else bU (cq c.cf.acI 0) λh=>bU (jk h e.cf) λg=>if(cG g 0) then some (⟨eG,0⟩,g)else bU (cq c.cf.acI 1) λi=>some (⟨i,tZ .u32 c.eD e.eD⟩,0):=by
 show lC (n+1) L (.mk 7 0 .z [] [] [a,b]) p=_;rw[lC];rfl
def Og{L:List Fm}{a b:Pf}{N:Nat}(B:gC L a N)(C:gC L b N):gC L (.mk 7 0 .z [] [] [a,b]) (N+5):=by
 refine gC.of λn n' hn D p c h=>?_;rw[VT,Mj,WA];rcases k0 (B (n+2) (n'+3) cw cw p c h) 3 with⟨e,he,g,i,d⟩|⟨f,m,l,g,i,d,hu,o,r⟩
 ·rw[g,i,bW,bX (by rw[cg];exact he)];rcases d with d|⟨f,l,m,d,r,rfl,_⟩
  ·rw[d,bW,bX (by rw[cg];exact he)];exact jR.no he rfl rfl rfl
  ·rw[d,bW,bV gw,bX (by rw[cg];exact r)];exact jR.no he rfl rfl rfl
 ·obtain⟨x,y,rfl,v,hy⟩:=o.ty.E1 r (.inr rfl);have s:=o.sub (x:=x) th v;have t:=o.sub (x:=y) th hy;have E:=x.eO v.ok;have F:=s.acJ;rw[g,i,d,bW,bW,bV gw,bV gw,bV th,dT];rcases C (n+3) (n'+3) cw cw p c h with⟨e,he,g,i,d⟩|⟨u,K,M,g,i,d,j,k⟩
  ·rw[g,i,d,bW,bW,bX (by rw[cg];exact he),bX (by rw[cg];exact he)];exact jR.no he rfl rfl rfl
  ·have w:=k.acJ;have A:=u.eO k.ok;obtain⟨q,q1,G,H,_⟩:=hu.union j (by have:=hu.len;omega) (by have:=j.len;omega);obtain⟨I,J⟩:=IS (a:=x) (b:=u) cw cw;rw[g,i,d,bW,bW,bV gw,bV gw,dT];simp only[Fm.ck,cD,dQ,fM,kx,bT,wU,KY];rw[q1,G,I,J,bT,bT,bT]
   by_cases hm:vB x u=0
   ·rw[eX hm,hm,bV gw];exact jR.yes rfl rfl rfl H hy (by have:=t.acJ;omega)
   ·rw[gj hm,bX (by rw[cg];exact hm)];exact jR.no hm rfl rfl rfl
def Us.has{l:List Int}{m:Nat}(h:Us l m):pt l=some (m.testBit 0)/\cG (lX .u32 (m:Int) 1) 0=m.testBit 0:=by
 have hm:=h.mem 0;constructor
 ·unfold pt;simp only[cc];cases l with
  |nil=>simp_all|cons a l=>
   rw[bX th];simp only[cD,fM,bT]
   congr 1
   rw[AS,dX,<-hm];constructor
   ·rintro rfl;simp
   ·intro hh;rcases jA.1 hh with hh|hh
    ·exact hh.symm
    ·cases h.srt with
     |cons s1 _=>
      have:=s1 0 (by simpa using hh);have:=h.pos a th;omega
 ·rw[show(1:Int)=((1:Nat):Int)from rfl,I7 h.lt cw];rw[AS,cg,Nat.testBit_zero,Nat.and_one_is_mod];simp only[mH];omega
def U6(n:Nat)(c:bZ)(s:Ty)(a:Pf):cp (n+2) c (.mk 8 0 s [] [] [a])=gM (bU (cF c 1 0) λk=>if(cG k 0) then some (eG,[],k)else bU (dk c [s]) λh=>b8 (cA n h a) λb d=>if(cG d 0) then some (eG,[],d)else bU (ic 4 s b.cf) λi=>bU (eb b.eD 1) λj=>some (i,j,0)) λe f g=>some (e,f,g):=by
 rw[cp];rw[lh];rfl
def S2(n:Nat)(c:bZ)(s:Ty)(a:Pf):cp (n+2) c (.mk 12 0 s [] [] [a])=gM (bU (cF c 1 0) λl=>if(cG l 0) then some (eG,[],l)else bU (dk c [s]) λh=>b8 (cA n h a) λb d=>if(cG d 0) then some (eG,[],d)else bU (pt b.eD) λi=>if i then some (eG,[],12)else bU (ic 6 s b.cf) λj=>bU (eb b.eD 1) λk=>some (j,k,0)) λe f g=>some (e,f,g):=by
 rw[cp];rw[lh];rfl
def EB(L:List Fm)(s:Ty)(a:Pf)(g:List Ty)(hs:List Fm):nE L 8 0 s [] [] (Pf.rV L [a]) g hs=tC (16<g.length+1) 3 (pbind (a.inf L (g++[s]) (hs.map (Fm.up 0 1))) λb m=>.inl (.mk 4 s [] [b],m/2)):=rfl
def MN(L:List Fm)(s:Ty)(a:Pf)(g:List Ty)(hs:List Fm):nE L 12 0 s [] [] (Pf.rV L [a]) g hs=tC (16<g.length+1) 3 (pbind (a.inf L (g++[s]) (hs.map (Fm.up 0 1))) λb m=>tC (m.testBit 0=true) 12 (.inl (.mk 6 s [] [b],m/2))):=rfl
def Wv(n:Nat)(L:List Fm)(s:Ty)(a:Pf)(p:cm):om (n+1) L (.mk 8 0 s [] [] [a]) p=bU (cK p.ey 1 0) λf=>if(cG f 0) then some (⟨eG,0⟩,f)else bU (dO p [s]) λd=>b8 (cR n L a d) λb c=>if(cG c 0) then some (⟨eG,0⟩,c)else bU (dv b.eD 1) λe=>some (⟨.mk 4 s [] [b.cf],e⟩,0):=by
 show fY (n+1) L (.mk 8 0 s [] [] [a]) p=_;rw[fY];rfl
def St(n:Nat)(L:List Fm)(s:Ty)(a:Pf)(p:cm):om (n+1) L (.mk 12 0 s [] [] [a]) p=bU (cK p.ey 1 0) λf=>if(cG f 0) then some (⟨eG,0⟩,f)else bU (dO p [s]) λd=>b8 (cR n L a d) λb c=>if(cG c 0) then some (⟨eG,0⟩,c)else if(cG (lX .u32 b.eD 1) 0) then some (⟨eG,0⟩,12)else bU (dv b.eD 1) λe=>some (⟨.mk 6 s [] [b.cf],e⟩,0):=by
 show fY (n+1) L (.mk 12 0 s [] [] [a]) p=_;rw[fY];rfl
def OB{L:List Fm}{s:Ty}(hs:s.err=0){a:Pf}{N:Nat}(t:gC L a N):gC L (.mk 8 0 s [] [] [a]) (N+5):=by
 refine gC.of λn n' hn u p c h=>?_;rw[show n'+4=n'+2+2 from rfl,U6,EB,Wv];rcases h.room (v:=1) (k:=0) cw cw with⟨b,d,r,_⟩|⟨b,d,r⟩
 ·have b:cK p.ey 1 0=some 0:=b;have d:cF c 1 0=some 0:=d;rw[b,d,bT,bT,bV nz,bV nz,jd cw];obtain⟨w,x,y,z,A,B,C⟩:=h.below hs r;rw[y,z,bT,bT];have hi:=t (n+3) (n'+2) cw cw w x A;rw[B,C] at hi;rcases hi with⟨e,he,g,i,j⟩|⟨f,m,l,g,i,j,hu,o⟩
  ·rw[g,i,j,bW,bW,bX (by rw[cg];exact he),bX (by rw[cg];exact he)];exact jR.no he rfl rfl rfl
  ·have D:=o.acJ;have E:=f.eO o.ok;have F:=df hs;obtain⟨u1,u2,u3⟩:=hu.out (by have:=hu.len;omega) (k:=1) cw;rw[g,i,j,bW,bW,bV nz,bV nz,dT];simp only[];rw[KL cw cw,bT,show(1:Int)=((1:Nat):Int)from rfl,u1,u2];refine jR.yes rfl rfl rfl u3 (.q (.inl rfl) hs o.ty) ?_;rw[Fm.bY];simp only[cn];omega
 ·have b:cK p.ey 1 0=some 3:=b;have d:cF c 1 0=some 3:=d;have G:=h.pl.nh;rw[b,d,bT,bT,bX gw,bX gw,iy cw];exact jR.no gw rfl rfl rfl
def KP{L:List Fm}{s:Ty}(hs:s.err=0){a:Pf}{N:Nat}(u:gC L a N):gC L (.mk 12 0 s [] [] [a]) (N+5):=by
 refine gC.of λn n' hn w p c h=>?_;rw[show n'+4=n'+2+2 from rfl,S2,MN,St];rcases h.room (v:=1) (k:=0) cw cw with⟨b,d,t,_⟩|⟨b,d,t⟩
 ·have b:cK p.ey 1 0=some 0:=b;have d:cF c 1 0=some 0:=d;rw[b,d,bT,bT,bV nz,bV nz,jd cw];obtain⟨x,y,z,A,B,C,D⟩:=h.below hs t;rw[z,A,bT,bT];have hi:=u (n+3) (n'+2) cw cw x y B;rw[C,D] at hi;rcases hi with⟨e,he,i,j,o⟩|⟨f,m,l,i,j,o,hu,r⟩
  ·rw[i,j,o,bW,bW,bX (by rw[cg];exact he),bX (by rw[cg];exact he)];exact jR.no he rfl rfl rfl
  ·have E:=r.acJ;have F:=f.eO r.ok;have G:=df hs;obtain⟨u1,u2,u3⟩:=hu.out (by have:=hu.len;omega) (k:=1) cw;obtain⟨H,I⟩:=hu.has;rw[i,j,o,bW,bW,bV nz,bV nz,dT];simp only[];rw[H,I,bT]
   by_cases g:m.testBit 0=true
   ·rw[iy g,bX g,bX g];exact jR.no gw rfl rfl rfl
   ·rw[jd g,bV g,bV g,KL cw cw,bT,show(1:Int)=((1:Nat):Int)from rfl,u1,u2];refine jR.yes rfl rfl rfl u3 (.q (.inr (.inr (.inl rfl))) hs r.ty) ?_;rw[Fm.bY];simp only[cn];omega
 ·have b:cK p.ey 1 0=some 3:=b;have d:cF c 1 0=some 3:=d;have J:=h.pl.nh;rw[b,d,bT,bT,bX gw,bX gw,iy cw];exact jR.no gw rfl rfl rfl
theorem KT(a b:Ty):a.iY b=b.iY a:=by grind[Ty.iJ]
def nk{a b:Ty}(c:a.err=0)(d:b.err=0):gb (qw a) b=some (a.iY b)/\dr FU b a=some (a.iY b):=by
 have e:=df c;have f:=df d
 grind[gb,jj,bT,pL,fU,KT]
def Zk(n:Nat)(c:bZ)(t:Tm)(a:Pf):cp (n+2) c (.mk 9 0 .z [t] [] [a])=gM (b8 (iH c.acL t) λp o=>if(cG o 0) then some (eG,[],o)else b8 (cA n c a) λb d=>if(cG d 0) then some (eG,[],d)else bU (iv t) λh=>bU (dZ b.eD h) λi=>if(cG b.cf.acH 4) then some (eG,[],10)else bU (dr FU b.cf.b7 p) λj=>if j then bU (cq b.cf.acI 0) λk=>b8 (gU k t) λl m=>some (l,i,m)else some (eG,[],7)) λe f g=>some (e,f,g):=by
 rw[cp];rw[lH];rfl
def VG(n:Nat)(c:bZ)(t:Tm)(a:Pf):cp (n+2) c (.mk 13 0 .z [t] [] [a])=gM (b8 (iH c.acL t) λo m=>if(cG m 0) then some (eG,[],m)else b8 (cA n c a) λb d=>if(cG d 0) then some (eG,[],d)else bU (iv t) λh=>bU (dZ b.eD h) λp=>if(cG b.cf.acH 6) then some (eG,[],10)else bU (dr FU b.cf.b7 o) λi=>if i then bU (cq b.cf.acI 0) λj=>b8 (gU j t) λk l=>some (k,b.eD,l)else some (eG,[],7)) λe f g=>some (e,f,g):=by
 rw[cp];rw[lH];rfl
def T7(L:List Fm)(t:Tm)(a:Pf)(g:List Ty)(hs:List Fm):nE L 9 0 .z [t] [] (Pf.rV L [a]) g hs=jc (t.ty g).2 (pbind (A9 (a.inf L g hs) 4) λa m=>tC ((t.ty g).1.iY a.b7=false) 7 (jc (lr (a.acI.getD 0 eG) t).2 (.inl ((lr (a.acI.getD 0 eG) t).1,m|||pQ t)))):=rfl
def Py(L:List Fm)(t:Tm)(a:Pf)(g:List Ty)(hs:List Fm):nE L 13 0 .z [t] [] (Pf.rV L [a]) g hs=jc (t.ty g).2 (pbind (A9 (a.inf L g hs) 6) λa m=>tC ((t.ty g).1.iY a.b7=false) 7 (jc (lr (a.acI.getD 0 eG) t).2 (.inl ((lr (a.acI.getD 0 eG) t).1,m)))):=rfl
def Zz(n:Nat)(L:List Fm)(t:Tm)(a:Pf)(p:cm):om (n+1) L (.mk 9 0 .z [t] [] [a]) p=b8 (cO FU p.acL t) λj i=>if(cG i 0) then some (⟨eG,0⟩,i)else bU (jv t) λd=>b8 (cU n L a p 4) λb c=>if(cG c 0) then some (⟨eG,0⟩,c)else bU (gb j b.cf.b7) λe=>if e then bU (cq b.cf.acI 0) λf=>b8 (gI f t) λg h=>some (⟨g,tZ .u32 b.eD d⟩,h)else some (⟨eG,0⟩,7):=by
 show fT (n+1) L (.mk 9 0 .z [t] [] [a]) p=_;rw[fT];rfl
def Vf(n:Nat)(L:List Fm)(t:Tm)(a:Pf)(p:cm):om (n+1) L (.mk 13 0 .z [t] [] [a]) p=b8 (cO FU p.acL t) λi h=>if(cG h 0) then some (⟨eG,0⟩,h)else bU (jv t) λj=>b8 (cU n L a p 6) λb c=>if(cG c 0) then some (⟨eG,0⟩,c)else bU (gb i b.cf.b7) λd=>if d then bU (cq b.cf.acI 0) λe=>b8 (gI e t) λf g=>some (⟨f,tZ .u32 b.eD 0⟩,g)else some (⟨eG,0⟩,7):=by
 show fT (n+1) L (.mk 13 0 .z [t] [] [a]) p=_;rw[fT];rfl
def Jf{m:Nat}(h:m<4294967296):tZ .u32 (m:Int) 0=(m:Int):=by
 rw[show(0:Int)=((0:Nat):Int)from rfl,H4 h cw,Nat.or_zero]
def tq{t:Tm}(a:t.err=0){g:List Ty}(b:fQ g):(∃e,e≠0/\(t.ty g).2=e/\∃z,t.ty g=(z,e))\/∃s,t.ty g=(s,0)/\cQ g t s/\s.err=0:=by
 obtain⟨s,e,c⟩:∃s e,t.ty g=(s,e):=⟨_,_,rfl⟩
 by_cases he:e=0
 ·subst he;obtain⟨d,f⟩:=ov _ t (fC _) (Tm.ea a).1 g b s c
  grind
 ·grind
def Rj{L:List Fm}{t:Tm}(d:t.err=0){a:Pf}{N:Nat}(D:gC L a N):gC L (.mk 9 0 .z [t] [] [a]) (N+5):=by
 refine gC.of λn n' hn E p c h=>?_;have g:=h.pl.nv;rw[show n'+4=n'+2+2 from rfl,Zk,T7,Zz,h.pl.acL,(k6 h.pl.ctx g d).1,(k6 h.pl.ctx g d).2];rcases tq d h.pl.ctx with⟨e,he,q1,z,F⟩|⟨s,q1,j,hs⟩
 ·rw[F,jO he,bW,bW,bX (by rw[cg];exact he),bX (by rw[cg];exact he),gj he];exact jR.no he rfl rfl rfl
 ·obtain⟨H,f1,f2,f3⟩:=u6 g j d;rw[q1,nA,bW,bW,bV nz,bV nz,eX rfl,f1,bT];rcases k0 (D (n+2) (n'+2) cw cw p c h) 4 with⟨e,he,o,r,i⟩|⟨f,m,l,o,r,i,hu,A,u⟩
  ·rw[o,r,bW,bX (by rw[cg];exact he)];rcases i with i|⟨f,l,m,i,u,rfl,hu⟩
   ·rw[i,bW,bX (by rw[cg];exact he)];exact jR.no he rfl rfl rfl
   ·obtain⟨q,u1,_⟩:=hu.union f3 (by have:=hu.len;omega) (by have:=f3.len;omega);rw[i,bW,bV nz,f2,bT,u1,bT,bX (by rw[cg];exact u)];exact jR.no he rfl rfl rfl
  ·obtain⟨B,x,rfl,k,C⟩:=A.ty.tJ u (.inl rfl);have v:=A.sub (x:=x) th C;obtain⟨q,u1,u2,u3,_⟩:=hu.union f3 (by have:=hu.len;omega) (by have:=f3.len;omega);rw[o,r,i,bW,bW,bV nz,bV nz,f2,bT,dT];simp only[Fm.cx,Fm.cT,Fm.ck,cD,fM,bT,wU];rw[u1,u2,bT,bV (show¬cG 4 4=true by decide),(nk hs k).1,(nk hs k).2,bT,bT]
   by_cases b:s.iY B=true
   ·have:=(Ty.iJ s B).1 b;subst this;have w:qk c.acL x t:=⟨v.err,d,s,C,j⟩;rw[jd (by rw[b];decide),bX b,bX b,(w.both cw).1,(w.both cw).2];rcases mo x t with y|⟨G,y⟩
    ·rw[y,bW,bW,gj gw];exact jR.no gw rfl rfl rfl
    ·rw[y,bW,bW,eX rfl];exact jR.yes (f:=Fm.e_ 0 x t) rfl rfl rfl u3 w.put cw
   ·rw[iy (by simpa using b),bV b,bV b];exact jR.no gw rfl rfl rfl
def Ot{L:List Fm}{t:Tm}(d:t.err=0){a:Pf}{N:Nat}(D:gC L a N):gC L (.mk 13 0 .z [t] [] [a]) (N+5):=by
 refine gC.of λn n' hn E p c h=>?_;have g:=h.pl.nv;rw[show n'+4=n'+2+2 from rfl,VG,Py,Vf,h.pl.acL,(k6 h.pl.ctx g d).1,(k6 h.pl.ctx g d).2];rcases tq d h.pl.ctx with⟨e,he,q1,z,F⟩|⟨s,q1,j,hs⟩
 ·rw[F,jO he,bW,bW,bX (by rw[cg];exact he),bX (by rw[cg];exact he),gj he];exact jR.no he rfl rfl rfl
 ·obtain⟨H,f1,f2,f3⟩:=u6 g j d;rw[q1,nA,bW,bW,bV nz,bV nz,eX rfl,f1,bT];rcases k0 (D (n+2) (n'+2) cw cw p c h) 6 with⟨e,he,o,r,i⟩|⟨f,m,l,o,r,i,hu,A,u⟩
  ·rw[o,r,bW,bX (by rw[cg];exact he)];rcases i with i|⟨f,l,m,i,u,rfl,hu⟩
   ·rw[i,bW,bX (by rw[cg];exact he)];exact jR.no he rfl rfl rfl
   ·obtain⟨q,u1,_⟩:=hu.union f3 (by have:=hu.len;omega) (by have:=f3.len;omega);rw[i,bW,bV nz,f2,bT,u1,bT,bX (by rw[cg];exact u)];exact jR.no he rfl rfl rfl
  ·obtain⟨B,x,rfl,k,C⟩:=A.ty.tJ u (.inr (.inr (.inl rfl)));have v:=A.sub (x:=x) th C;obtain⟨q,u1,_⟩:=hu.union f3 (by have:=hu.len;omega) (by have:=f3.len;omega);rw[o,r,i,bW,bW,bV nz,bV nz,f2,bT,dT];simp only[Fm.cx,Fm.cT,Fm.ck,cD,fM,bT,wU];rw[u1,Jf hu.lt,bT,bV (show¬cG 6 6=true by decide),(nk hs k).1,(nk hs k).2,bT,bT]
   by_cases b:s.iY B=true
   ·have:=(Ty.iJ s B).1 b;subst this;have w:qk c.acL x t:=⟨v.err,d,s,C,j⟩;rw[jd (by rw[b];decide),bX b,bX b,(w.both cw).1,(w.both cw).2];rcases mo x t with y|⟨G,y⟩
    ·rw[y,bW,bW,gj gw];exact jR.no gw rfl rfl rfl
    ·rw[y,bW,bW,eX rfl];exact jR.yes (f:=Fm.e_ 0 x t) rfl rfl rfl hu w.put cw
   ·rw[iy (by simpa using b),bV b,bV b];exact jR.no gw rfl rfl rfl
def Vj(n:Nat)(c:bZ)(t:Tm)(F:Fm)(a:Pf):cp (n+2) c (.mk 10 0 .z [t] [F] [a])=gM (bU (gP c.acL F) λb=>if(cG b 0) then some (eG,[],b)else if(cG F.acH 5) then some (eG,[],10)else b8 (iH c.acL t) λh d=>if(cG d 0) then some (eG,[],d)else bU (dr FU F.b7 h) λi=>if i then bU (cq F.acI 0) λj=>b8 (dd n c a j t) λk l=>bU (iv t) λm=>bU (dZ k m) λo=>some (F,o,l)else some (eG,[],7)) λe f g=>some (e,f,g):=by
 rw[cp];rw[lR];rfl
def W3(n:Nat)(c:bZ)(t:Tm)(F:Fm)(a:Pf):cp (n+2) c (.mk 14 0 .z [t] [F] [a])=gM (bU (gP c.acL F) λb=>if(cG b 0) then some (eG,[],b)else if(cG F.acH 7) then some (eG,[],10)else b8 (iH c.acL t) λh d=>if(cG d 0) then some (eG,[],d)else bU (dr FU F.b7 h) λi=>if i then bU (cq F.acI 0) λj=>b8 (dd n c a j t) λk l=>some (F,k,l)else some (eG,[],7)) λe f g=>some (e,f,g):=by
 rw[cp];rw[lR];rfl
def Mz(L:List Fm)(t:Tm)(F:Fm)(a:Pf)(g:List Ty)(hs:List Fm):nE L 10 0 .z [t] [F] (Pf.rV L [a]) g hs=jc (F.ta g) (tC (F.acH≠5) 10 (jc (t.ty g).2 (tC ((t.ty g).1.iY F.b7=false) 7 (pbind (Be (a.inf L g hs) (F.acI.getD 0 eG) t) λ_ m=>.inl (F,m|||pQ t))))):=rfl
def Qn(L:List Fm)(t:Tm)(F:Fm)(a:Pf)(g:List Ty)(hs:List Fm):nE L 14 0 .z [t] [F] (Pf.rV L [a]) g hs=jc (F.ta g) (tC (F.acH≠7) 10 (jc (t.ty g).2 (tC ((t.ty g).1.iY F.b7=false) 7 (pbind (Be (a.inf L g hs) (F.acI.getD 0 eG) t) λ_ m=>.inl (F,m))))):=rfl
def VR(n:Nat)(L:List Fm)(t:Tm)(F:Fm)(a:Pf)(p:cm):om (n+1) L (.mk 10 0 .z [t] [F] [a]) p=bU (cN FU p.acL F) λc=>if(cG c 0) then some (⟨eG,0⟩,c)else if(cG F.acH 5) then some (⟨eG,0⟩,10)else b8 (cO FU p.acL t) λh d=>if(cG d 0) then some (⟨eG,0⟩,d)else bU (gb h F.b7) λi=>if i then bU (cq F.acI 0) λe=>b8 (c6 n L a p e t) λf b=>if(cG b 0) then some (⟨eG,0⟩,b)else bU (jv t) λg=>some (⟨F,tZ .u32 f.eD g⟩,0)else some (⟨eG,0⟩,7):=by
 show gq (n+1) L (.mk 10 0 .z [t] [F] [a]) p=_;rw[gq];rfl
def Vm(n:Nat)(L:List Fm)(t:Tm)(F:Fm)(a:Pf)(p:cm):om (n+1) L (.mk 14 0 .z [t] [F] [a]) p=bU (cN FU p.acL F) λc=>if(cG c 0) then some (⟨eG,0⟩,c)else if(cG F.acH 7) then some (⟨eG,0⟩,10)else b8 (cO FU p.acL t) λg d=>if(cG d 0) then some (⟨eG,0⟩,d)else bU (gb g F.b7) λh=>if h then bU (cq F.acI 0) λe=>b8 (c6 n L a p e t) λf b=>if(cG b 0) then some (⟨eG,0⟩,b)else some (⟨F,tZ .u32 f.eD 0⟩,0)else some (⟨eG,0⟩,7):=by
 show gq (n+1) L (.mk 14 0 .z [t] [F] [a]) p=_;rw[gq];rfl
def O9{L:List Fm}{t:Tm}(d:t.err=0){F:Fm}(hF:F.err=0){a:Pf}{N:Nat}(E:gC L a N):gC L (.mk 10 0 .z [t] [F] [a]) (N+5):=by
 refine gC.of λn n' hn G p c h=>?_;have g:=h.pl.nv;obtain⟨t1,_,t2⟩:=qs h.pl.ctx cw hF;have H:=(Fm.ea hF).2;rw[show n'+4=n'+2+2 from rfl,Vj,Mz,VR,h.pl.acL,(k6 h.pl.ctx g d).1,(k6 h.pl.ctx g d).2,t1,t2 g,bT,bT]
 by_cases j:F.ta c.acL=0
 ·have o:¬cG (F.ta c.acL) 0=true:=by rw[cg];simpa using j
  rw[bV o,bV o,eX j];have i:=pj F (Fm.ea hF).1 c.acL h.pl.ctx j
  by_cases k:F.acH=5
  ·have o:¬cG F.acH 5=true:=by rw[cg];simpa using k
   rw[bV o,bV o,jd (by simpa using k)];rcases tq d h.pl.ctx with⟨e,he,q1,z,I⟩|⟨s,q1,r,hs⟩
   ·rw[I,jO he,bW,bW,bX (by rw[cg];exact he),bX (by rw[cg];exact he),gj he];exact jR.no he rfl rfl rfl
   ·obtain⟨v,x,rfl,u,D⟩:=i.tJ k (.inr (.inl rfl));have w:Hg c.acL (.mk 5 v [] [x]):=⟨hF,i⟩;have y:=w.sub (x:=x) th D;obtain⟨K,f1,f2,f3⟩:=u6 g r d;rw[q1,nA,bW,bW,bV nz,bV nz,eX rfl];simp only[Fm.cx,Fm.cT,Fm.ck,cD,fM,bT,wU];rw[(nk hs u).1,(nk hs u).2,bT,bT]
    by_cases b:s.iY v=true
    ·have:=(Ty.iJ s v).1 b;subst this;have J:qk c.acL x t:=⟨y.err,d,s,D,r⟩;rw[jd (by rw[b];decide),bX b,bX b];rcases qO g (E (n+2) (n'+1) cw cw p c h) J with⟨e,z,l,m,he,A,B,C,hu⟩|⟨f,m,l,A,B,C,hu⟩
     ·obtain⟨q,u1,_⟩:=hu.union f3 (by have:=hu.len;omega) (by have:=f3.len;omega);rw[A,B,C,bW,bW,bX (by rw[cg];exact he),f2,bT,u1];exact jR.no he rfl rfl rfl
     ·obtain⟨q,u1,u2,u3,_⟩:=hu.union f3 (by have:=hu.len;omega) (by have:=f3.len;omega);rw[A,B,C,bW,bW,bV nz,f1,f2,bT,bT,dT];simp only[];rw[u1,u2];exact jR.yes rfl rfl rfl u3 i cw
    ·rw[iy (by simpa using b),bV b,bV b];exact jR.no gw rfl rfl rfl
  ·rw[bX (by rw[cg];exact k),bX (by rw[cg];exact k),iy k];exact jR.no gw rfl rfl rfl
 ·rw[bX (by rw[cg];exact j),bX (by rw[cg];exact j),gj j];exact jR.no j rfl rfl rfl
def Od{L:List Fm}{t:Tm}(g:t.err=0){F:Fm}(hF:F.err=0){a:Pf}{N:Nat}(D:gC L a N):gC L (.mk 14 0 .z [t] [F] [a]) (N+5):=by
 refine gC.of λn n' hn E p c h=>?_;have i:=h.pl.nv;obtain⟨t1,_,t2⟩:=qs h.pl.ctx cw hF;have G:=(Fm.ea hF).2;rw[show n'+4=n'+2+2 from rfl,W3,Qn,Vm,h.pl.acL,(k6 h.pl.ctx i g).1,(k6 h.pl.ctx i g).2,t1,t2 i,bT,bT]
 by_cases j:F.ta c.acL=0
 ·have o:¬cG (F.ta c.acL) 0=true:=by rw[cg];simpa using j
  rw[bV o,bV o,eX j];have d:=pj F (Fm.ea hF).1 c.acL h.pl.ctx j
  by_cases k:F.acH=7
  ·have o:¬cG F.acH 7=true:=by rw[cg];simpa using k
   rw[bV o,bV o,jd (by simpa using k)];rcases tq g h.pl.ctx with⟨e,he,q1,z,H⟩|⟨s,q1,r,hs⟩
   ·rw[H,jO he,bW,bW,bX (by rw[cg];exact he),bX (by rw[cg];exact he),gj he];exact jR.no he rfl rfl rfl
   ·obtain⟨u,x,rfl,q,C⟩:=d.tJ k (.inr (.inr (.inr rfl)));have v:Hg c.acL (.mk 7 u [] [x]):=⟨hF,d⟩;have w:=v.sub (x:=x) th C;rw[q1,nA,bW,bW,bV nz,bV nz,eX rfl];simp only[Fm.cx,Fm.cT,Fm.ck,cD,fM,bT,wU];rw[(nk hs q).1,(nk hs q).2,bT,bT]
    by_cases b:s.iY u=true
    ·have:=(Ty.iJ s u).1 b;subst this;have I:qk c.acL x t:=⟨w.err,g,s,C,r⟩;rw[jd (by rw[b];decide),bX b,bX b];rcases qO i (D (n+2) (n'+1) cw cw p c h) I with⟨e,z,l,m,he,y,A,B,hu⟩|⟨f,m,l,y,A,B,hu⟩
     ·rw[y,A,B,bW,bW,bX (by rw[cg];exact he)];exact jR.no he rfl rfl rfl
     ·rw[y,A,B,bW,bW,bV nz,dT];simp only[];rw[Jf hu.lt];exact jR.yes rfl rfl rfl hu d cw
    ·rw[iy (by simpa using b),bV b,bV b];exact jR.no gw rfl rfl rfl
  ·rw[bX (by rw[cg];exact k),bX (by rw[cg];exact k),iy k];exact jR.no gw rfl rfl rfl
 ·rw[bX (by rw[cg];exact j),bX (by rw[cg];exact j),gj j];exact jR.no j rfl rfl rfl
def M0(k:Fm->Option (Fm×List Int×Int))(f:Fm):Option (Fm×List Int×Int):=
 bU (nW FU f 0) λc=>if c then b8 (kR FU f) λa b=>if(cG b 0) then some (eG,[],b)else bU (nW FU a 0) λd=>if d then some (eG,[],6)else k (.mk a.acH (.mk a.b7.acH a.b7.acI) a.cv a.acI)else k (.mk f.acH (.mk f.b7.acH f.b7.acI) f.cv f.acI)
def PU(n:Nat)(c:bZ)(a b:Pf):cp (n+2) c (.mk 11 0 .z [] [] [a,b])=gM (b8 (cA n c a) λd e=>if(cG e 0) then some (eG,[],e)else if(cG d.cf.acH 5) then some (eG,[],10)else bU (cF c 1 1) λg=>if(cG g 0) then some (eG,[],g)else bU (dk c [d.cf.b7]) λq=>bU (cq d.cf.acI 0) λr=>bU (dU q r) λs=>b8 (cA n s b) λh i=>if(cG i 0) then some (eG,[],i)else M0 (λf=>bU (ft FU f 1 (-1)) λj=>bU (eb h.eD 1) λk=>bU (dZ d.eD k) λl=>some (j,l,0)) h.cf) λm o p=>some (m,o,p):=by
 rw[cp];rw[kB];rfl
def P'(n:Nat)(c:bZ)(a b:Pf):cp (n+2) c (.mk 15 0 .z [] [] [a,b])=gM (b8 (cA n c a) λd g=>if(cG g 0) then some (eG,[],g)else if(cG d.cf.acH 7) then some (eG,[],10)else bU (cF c 1 1) λh=>if(cG h 0) then some (eG,[],h)else bU (dk c [d.cf.b7]) λr=>bU (cq d.cf.acI 0) λs=>bU (dU r s) λt=>b8 (cA n t b) λe i=>if(cG i 0) then some (eG,[],i)else M0 (λf=>bU (pt e.eD) λj=>if j then some (eG,[],12)else bU (ft FU f 1 (-1)) λk=>bU (eb e.eD 1) λl=>bU (dZ d.eD l) λm=>some (k,m,0)) e.cf) λo p q=>some (o,p,q):=by
 rw[cp];rw[kB];rfl
def Ju(L:List Fm)(a b:Pf)(g:List Ty)(hs:List Fm):nE L 11 0 .z [] [] (Pf.rV L [a,b]) g hs=pbind (A9 (a.inf L g hs) 5) λa m=>tC (16<g.length+1\/16<hs.length+1) 3 (pbind (b.inf L (g++[a.b7]) (hs.map (Fm.up 0 1)++[a.acI.getD 0 eG])) λb n=>jc (A5 b).2 (.inl ((A5 b).1,m|||n/2))):=rfl
def Kd(L:List Fm)(a b:Pf)(g:List Ty)(hs:List Fm):nE L 15 0 .z [] [] (Pf.rV L [a,b]) g hs=pbind (A9 (a.inf L g hs) 7) λa m=>tC (16<g.length+1\/16<hs.length+1) 3 (pbind (b.inf L (g++[a.b7]) (hs.map (Fm.up 0 1)++[a.acI.getD 0 eG])) λb n=>jc (A5 b).2 (tC (n.testBit 0=true) 12 (.inl ((A5 b).1,m|||n/2)))):=rfl
def Q9(n:Nat)(L:List Fm)(a b:Pf)(p:cm):om (n+1) L (.mk 11 0 .z [] [] [a,b]) p=b8 (cU n L a p 5) λc d=>if(cG d 0) then some (⟨eG,0⟩,d)else bU (cK p.ey 1 1) λe=>if(cG e 0) then some (⟨eG,0⟩,e)else bU (dO p [c.cf.b7]) λi=>bU (cq c.cf.acI 0) λj=>bU (dV i j) λk=>b8 (cR n L b k) λf g=>if(cG g 0) then some (⟨eG,0⟩,g)else b8 (ny f.cf) λl h=>if(cG h 0) then some (⟨eG,0⟩,h)else bU (dv f.eD 1) λm=>some (⟨l,tZ .u32 c.eD m⟩,0):=by
 show gm (n+1) L (.mk 11 0 .z [] [] [a,b]) p=_;rw[gm];rfl
def RL(n:Nat)(L:List Fm)(a b:Pf)(p:cm):om (n+1) L (.mk 15 0 .z [] [] [a,b]) p=b8 (cU n L a p 7) λc e=>if(cG e 0) then some (⟨eG,0⟩,e)else bU (cK p.ey 1 1) λf=>if(cG f 0) then some (⟨eG,0⟩,f)else bU (dO p [c.cf.b7]) λi=>bU (cq c.cf.acI 0) λj=>bU (dV i j) λk=>b8 (cR n L b k) λd g=>if(cG g 0) then some (⟨eG,0⟩,g)else b8 (ny d.cf) λl h=>if(cG h 0) then some (⟨eG,0⟩,h)else if(cG (lX .u32 d.eD 1) 0) then some (⟨eG,0⟩,12)else bU (dv d.eD 1) λm=>some (⟨l,tZ .u32 c.eD m⟩,0):=by
 show gm (n+1) L (.mk 15 0 .z [] [] [a,b]) p=_;rw[gm];rfl
def Ki{g:List Ty}{s:Ty}{f:Fm}(h:Hg (g++[s]) f)(hg:g.length<=1000)(k:Fm->Option (Fm×List Int×Int))(k':Fm->Option (Fm×List Int×Int))(j:∀x,x.acP 0=0->x.acJ<=4096*4096->x.acN 1000000000000=true->k x=k' (x.up 1 (-1))):M0 k f=if(A5 f).2=0 then k' (A5 f).1 else some (eG,[],(A5 f).2):=by
 have hn:=h.acJ;have m:f.acN 1000000000000=true:=h.ty.acN _ aae;unfold M0;rw[zW FU f 0 (by rw[cV];omega) cw cw cw,bT,Ty.ig,Fm.ig]
 by_cases i:f.acP 0=0
 ·have hw:A5 f=(f.up 1 (-1),0):=by unfold A5;rw[bX i]
  grind
 ·rw[bX (show decide (0<f.acP 0)=true by simp;omega),Dc FU f (by rw[cV];omega) cw (O5.of f hn h.ok (h.ty.acN _ aae))];obtain⟨a,b,d⟩:∃a b,f.uU 0=(a,b):=⟨_,_,rfl⟩
  have hw:A5 f=if b≠0 then(eG,b)else if a.acP 0≠0 then(eG,6)else(a.up 1 (-1),0):=by unfold A5;rw[bV i,d]
  rw[d];simp only[]
  by_cases he:b=0
  ·subst he;have c:=K_ h.ty 0 aae hn (by rw[d]);rw[d] at c;obtain⟨_,a2,a3⟩:=c;have a2:eY (g++[s]) a:=a2;have a3:a.acJ<=3000*f.acJ:=a3;rw[bV gw] at hw;rw[bX rfl,bW,bV nz,zW FU a 0 (by rw[cV];omega) cw cw cw,bT,Ty.ig,Fm.ig]
   by_cases e:a.acP 0=0
   ·rw[bV (by simpa using e)] at hw;rw[hw,bV (show¬(decide (0<a.acP 0)=true) by simp;omega)];exact(j a e cw (a2.acN _ aae)).trans (bX rfl).symm
   ·rw[bX e] at hw;rw[hw,bX (show decide (0<a.acP 0)=true by simp;omega)];rfl
  ·rw[bX he] at hw
   have l:cG b 0=true:=by rw[cg];exact he
   rw[hw,bV he,bW,bX l,bV he]
def Jk{L:List Fm}{a b:Pf}{N:Nat}(I:gC L a N)(J:gC L b N):gC L (.mk 11 0 .z [] [] [a,b]) (N+5):=by
 refine gC.of λn n' hn K p c h=>?_;have M:=h.pl.nv;rw[show n'+4=n'+2+2 from rfl,PU,Ju,Q9];rcases k0 (I (n+2) (n'+2) cw cw p c h) 5 with⟨e,he,g,i,d⟩|⟨f,m,l,g,i,d,hu,C,A⟩
 ·rw[g,i,bW,bX (by rw[cg];exact he)];rcases d with d|⟨f,l,m,d,A,rfl,_⟩
  ·rw[d,bW,bX (by rw[cg];exact he)];exact jR.no he rfl rfl rfl
  ·rw[d,bW,bV nz,bX (by rw[cg];exact A)];exact jR.no he rfl rfl rfl
 ·obtain⟨s,x,rfl,hs,O⟩:=C.ty.tJ A (.inr (.inl rfl));have B:=C.sub (x:=x) th O;rw[g,i,d,bW,bW,bV nz,bV nz,bV th,dT];simp only[Fm.cT,Fm.ck,cD,fM,bT,wU];rcases h.room (v:=1) (k:=1) cw cw with⟨j,o,D,P⟩|⟨j,o,D⟩
  ·have j:cK p.ey 1 1=some 0:=j;have o:cF c 1 1=some 0:=o;rw[j,o,bT,bT,bV nz,bV nz,jd cw];obtain⟨p1,c1,Q,R,S,E,F⟩:=h.below hs D;obtain⟨T,U,V,W,X,Y,Z⟩:=S.with (f:=x) (by rw[E];exact B) (by rw[F];simpa using P);rw[Q,R,bT,bT,V,W,bT,bT];have hi:=J (n+3) (n'+2) cw cw T U X;rw[Y,Z,E,F] at hi;rcases hi with⟨e,he,g,i,d⟩|⟨f',G,H,g,i,d,u,r⟩
   ·rw[g,i,d,bW,bW,bX (by rw[cg];exact he),bX (by rw[cg];exact he)];exact jR.no he rfl rfl rfl
   ·obtain⟨u1,u2,u3⟩:=u.out (by have:=u.len;omega) (k:=1) cw;have u1:eb H 1=some (vn ((1:Nat):Int) H):=u1;have u2:dv (G:Int) 1=some ((G/2^1:Nat):Int):=u2;obtain⟨q,v1,v2,v3,_⟩:=hu.union u3 (by have:=hu.len;omega) (by have:=u3.len;omega);rw[g,i,d,bW,bW,bV nz,bV nz,dT];simp only[];rw[tS r cw]
    rw[Ki r cw _ (λy=>some (y,q,0)) (λy y1 y2 y3=>by
     rw[AI FU y 1 (by rw[cV];omega) cw cw cw y3,bT,u1,bT,v1,bT])]
    obtain⟨w,e,hw⟩:∃w e,A5 f'=(w,e):=⟨_,_,rfl⟩;rw[hw,bW]
    by_cases he:e=0
    ·subst he;have t:=Hw r cw hs (by rw[hw]);rw[hw] at t;rw[bV nz,bX rfl,eX rfl,u2,bT,v2];exact jR.yes rfl rfl rfl v3 t.1 (by have:=t.2;omega)
    ·rw[bX (by rw[cg];exact he),bV he,gj he];exact jR.no he rfl rfl rfl
  ·have j:cK p.ey 1 1=some 3:=j;have o:cF c 1 1=some 3:=o;rw[j,o,bT,bT,bX gw,bX gw,iy cw];exact jR.no gw rfl rfl rfl
def Jm{L:List Fm}{a b:Pf}{N:Nat}(M:gC L a N)(g:gC L b N):gC L (.mk 15 0 .z [] [] [a,b]) (N+5):=by
 refine gC.of λn n' hn O p c h=>?_;have P:=h.pl.nv;rw[show n'+4=n'+2+2 from rfl,P',Kd,RL];rcases k0 (M (n+2) (n'+2) cw cw p c h) 7 with⟨e,he,i,j,d⟩|⟨f,m,l,i,j,d,hu,F,C⟩
 ·rw[i,j,bW,bX (by rw[cg];exact he)];rcases d with d|⟨f,l,m,d,C,rfl,_⟩
  ·rw[d,bW,bX (by rw[cg];exact he)];exact jR.no he rfl rfl rfl
  ·rw[d,bW,bV nz,bX (by rw[cg];exact C)];exact jR.no he rfl rfl rfl
 ·obtain⟨s,x,rfl,hs,Q⟩:=F.ty.tJ C (.inr (.inr (.inr rfl)));have D:=F.sub (x:=x) th Q;rw[i,j,d,bW,bW,bV nz,bV nz,bV th,dT];simp only[Fm.cT,Fm.ck,cD,fM,bT,wU];rcases h.room (v:=1) (k:=1) cw cw with⟨o,r,G,R⟩|⟨o,r,G⟩
  ·have o:cK p.ey 1 1=some 0:=o;have r:cF c 1 1=some 0:=r;rw[o,r,bT,bT,bV nz,bV nz,jd cw];obtain⟨p1,H,S,T,U,I,J⟩:=h.below hs G;obtain⟨V,E,W,X,Y,Z,b5⟩:=U.with (f:=x) (by rw[I];exact D) (by rw[J];simpa using R);rw[S,T,bT,bT,W,X,bT,bT];have hi:=g (n+3) (n'+2) cw cw V E Y;rw[Z,b5,I,J] at hi;rcases hi with⟨e,he,i,j,d⟩|⟨f',B,K,i,j,d,t,u⟩
   ·rw[i,j,d,bW,bW,bX (by rw[cg];exact he),bX (by rw[cg];exact he)];exact jR.no he rfl rfl rfl
   ·obtain⟨u1,u2,u3⟩:=t.out (by have:=t.len;omega) (k:=1) cw;have u1:eb K 1=some (vn ((1:Nat):Int) K):=u1;have u2:dv (B:Int) 1=some ((B/2^1:Nat):Int):=u2;obtain⟨q,v1,v2,v3,_⟩:=hu.union u3 (by have:=hu.len;omega) (by have:=u3.len;omega);rw[i,j,d,bW,bW,bV nz,bV nz,dT];simp only[];rw[tS u cw];obtain⟨H,E⟩:=t.has
    rw[Ki u cw _ (λy=>if B.testBit 0 then some (eG,[],12)else some (y,q,0)) (λy y1 y2 y3=>by
     rw[H,bT,AI FU y 1 (by rw[cV];omega) cw cw cw y3,bT,u1,bT,v1,bT])]
    obtain⟨w,e,hw⟩:∃w e,A5 f'=(w,e):=⟨_,_,rfl⟩;rw[hw,bW]
    by_cases he:e=0
    ·subst he;have A:=Hw u cw hs (by rw[hw]);rw[hw] at A;rw[bV nz,bX rfl,eX rfl,E]
     by_cases g:B.testBit 0=true
     ·rw[iy g,bX g,bX g];exact jR.no gw rfl rfl rfl
     ·rw[jd g,bV g,bV g,u2,bT,v2];exact jR.yes rfl rfl rfl v3 A.1 (by have:=A.2;omega)
    ·rw[bX (by rw[cg];exact he),bV he,gj he];exact jR.no he rfl rfl rfl
  ·have o:cK p.ey 1 1=some 3:=o;have r:cF c 1 1=some 3:=r;rw[o,r,bT,bT,bX gw,bX gw,iy cw];exact jR.no gw rfl rfl rfl
def fQ.nat{g:List Ty}(h:fQ g):fQ (g++[.nat]):=h.app Ty.fO
def fQ.lk{g:List Ty}(h:fQ g):fQ (g++[.lk]):=h.app Ty.m7
def ya{g:List Ty}(d:fQ g){t:Tm}(f:t.err=0){s:Ty}(hs:s=.nat\/s=.lk)(h:mU t g s.acH=0):cQ g t s:=by
 rcases tq f d with⟨e,he,q1,z,j⟩|⟨b,q1,i,a⟩
 ·unfold mU at h
  grind
 ·unfold mU at h;rw[q1] at h
  by_cases c:b.acH=s.acH
  ·have:b=s:=by
    rcases hs with rfl|rfl
    ·exact(s8 a).1 c
    ·exact(z' a).1 c
   rwa [<-this]
  ·grind
def r7{F:Fm}(hF:F.err=0)(a:F.acN 1000000000=true){f c:Nat}(b:f<=100)(d:c<=100):c_ F (f:Int) (c:Int)=some (F.up f c)/\ft FU F (f:Int) (c:Int)=some (F.up f c):=by
 obtain⟨a1,a2⟩:=Fm.ea hF;exact⟨jU a1 cw (Fm.iB _ cw a) cw cw cw cw,w9 FU F f c (by rw[cV];omega) cw cw cw cw cw (Fm.iB _ cw a)⟩
def zj{F:Fm}(hF:F.err=0){f c:Int}(a:0<=f)(b:0<=c):(F.up f c).err=0:=by grind[Fm.ea,Fm.err,Fm.EZ,Fm.nN]
def q_{F:Fm}{f:Int}:F.up f 0=F:=Fm.Kx F f
def Zr:uI.err=0:=gw
def S0:(Tm.mk 7 0 .z []).err=0:=gw
def U0:(uw v0).err=0:=gw
def Wb:(Tm.mk 8 0 .z [v1,v0]).err=0:=gw
def NH{L:List Fm}{p:cm}{c:bZ}(h:PG L p c)(hn:c.acL.length+2<=16):∃b a,dO p [.nat,.lk]=some b/\dk c [.nat,.lk]=some a/\PG L b a/\a.acL=c.acL++[.nat]++[.lk]/\a.acO=c.acO.map (Fm.up 0 2):=by
 obtain⟨b,a,d,e,f,g,i⟩:=h.Pw (l:=[.nat,.lk]) (λx hx=>by
  rcases jA.1 hx with rfl|hx
  ·exact Ty.fO
  ·rw[yC.1 hx];exact Ty.m7) hn
 grind
def SA(n:Nat)(c:bZ)(t:Tm)(F:Fm)(a b:Pf):cp (n+2) c (.mk 16 0 .z [t] [F] [a,b])=gM (ef (dP c.acL [.nat])<|bU (iL (dN c.acL [.nat]) F) λe=>if(cG e 0) then some (eG,[],e)else bU (eR c t 1) λf=>if(cG f 0) then some (eG,[],f)else bU (dR 4 []) λy=>b8 (dd n c a F y) λA g=>if(cG g 0) then some (eG,[],g)else bU (cF c 1 1) λh=>if(cG h 0) then some (eG,[],h)else bU (dk c [.nat]) λi=>bU (dU i F) λj=>bU (ft FU F 1 1) λk=>bU (dR 5 [v0]) λl=>b8 (dd n j b k l) λm d=>if(cG d 0) then some (eG,[],d)else b8 (gU F t) λo p=>bU (iv t) λq=>bU (dZ q A) λr=>bU (eb m 1) λs=>bU (dZ r s) λu=>some (o,u,p)) λv w x=>some (v,w,x):=by
 rw[cp];rw[mY];rfl
def Si(n:Nat)(c:bZ)(t:Tm)(F:Fm)(a b:Pf):cp (n+2) c (.mk 17 0 .z [t] [F] [a,b])=gM (ef (dP c.acL [.lk])<|bU (iL (dN c.acL [.lk]) F) λe=>if(cG e 0) then some (eG,[],e)else bU (eR c t 2) λf=>if(cG f 0) then some (eG,[],f)else bU (dR 7 []) λA=>b8 (dd n c a F A) λB g=>if(cG g 0) then some (eG,[],g)else bU (cF c 2 1) λh=>if(cG h 0) then some (eG,[],h)else bU (dk c [.nat,.lk]) λi=>bU (ft FU F 1 1) λj=>bU (dU i j) λk=>bU (ft FU F 1 2) λl=>bU (dR 8 [v1,v0]) λm=>b8 (dd n k b l m) λo d=>if(cG d 0) then some (eG,[],d)else b8 (gU F t) λp q=>bU (iv t) λr=>bU (dZ r B) λs=>bU (eb o 2) λu=>bU (dZ s u) λv=>some (p,v,q)) λw x y=>some (w,x,y):=by
 rw[cp];rw[lz];rfl
def M'(L:List Fm)(t:Tm)(F:Fm)(a b:Pf)(g:List Ty)(hs:List Fm):nE L 16 0 .z [t] [F] (Pf.rV L [a,b]) g hs=jc (F.ta (g++[.nat])) (jc (mU t g 1) (pbind (Be (a.inf L g hs) F uI) λ_ m=>tC (16<g.length+1\/16<hs.length+1) 3 (pbind (Be (b.inf L (g++[.nat]) (hs.map (Fm.up 0 1)++[F])) (F.up 1 1) (uw v0)) λ_ n=>jc (lr F t).2 (.inl ((lr F t).1,(pQ t|||m)|||n/2))))):=rfl
def M3(L:List Fm)(t:Tm)(F:Fm)(a b:Pf)(g:List Ty)(hs:List Fm):nE L 17 0 .z [t] [F] (Pf.rV L [a,b]) g hs=jc (F.ta (g++[.lk])) (jc (mU t g 2) (pbind (Be (a.inf L g hs) F (.mk 7 0 .z [])) λ_ m=>tC (16<g.length+2\/16<hs.length+1) 3 (pbind (Be (b.inf L (g++[.nat]++[.lk]) (hs.map (Fm.up 0 2)++[F.up 1 1])) (F.up 1 2) (.mk 8 0 .z [v1,v0])) λ_ n=>jc (lr F t).2 (.inl ((lr F t).1,(pQ t|||m)|||n/4))))):=rfl
def R3(n:Nat)(L:List Fm)(t:Tm)(F:Fm)(a b:Pf)(p:cm):om (n+1) L (.mk 16 0 .z [t] [F] [a,b]) p=bU (eC p.acL [.nat]) λs=>bU (cN FU s F) λd=>if(cG d 0) then some (⟨eG,0⟩,d)else bU (hQ p.acL t 1) λe=>if(cG e 0) then some (⟨eG,0⟩,e)else b8 (c6 n L a p F uI) λu f=>if(cG f 0) then some (⟨eG,0⟩,f)else bU (cK p.ey 1 1) λg=>if(cG g 0) then some (⟨eG,0⟩,g)else bU (dO p [.nat]) λh=>bU (c_ F 1 (di .i64 1 1)) λi=>bU (dV h i) λj=>bU (c_ F 1 1) λk=>b8 (c6 n L b j k (uw v0)) λl c=>if(cG c 0) then some (⟨eG,0⟩,c)else b8 (gI F t) λm o=>bU (jv t) λq=>bU (dv l.eD 1) λr=>some (⟨m,tZ .u32 (tZ .u32 q u.eD) r⟩,o):=by
 rfl
def SX(n:Nat)(L:List Fm)(t:Tm)(F:Fm)(a b:Pf)(p:cm):om (n+1) L (.mk 17 0 .z [t] [F] [a,b]) p=bU (eC p.acL [.lk]) λs=>bU (cN FU s F) λd=>if(cG d 0) then some (⟨eG,0⟩,d)else bU (hQ p.acL t 2) λe=>if(cG e 0) then some (⟨eG,0⟩,e)else b8 (c6 n L a p F (.mk 7 0 .z [])) λu f=>if(cG f 0) then some (⟨eG,0⟩,f)else bU (cK p.ey 2 1) λg=>if(cG g 0) then some (⟨eG,0⟩,g)else bU (dO p [.nat,.lk]) λh=>bU (c_ F 1 (di .i64 2 1)) λi=>bU (dV h i) λj=>bU (c_ F 1 2) λk=>b8 (c6 n L b j k (.mk 8 0 .z [v1,v0])) λl c=>if(cG c 0) then some (⟨eG,0⟩,c)else b8 (gI F t) λm o=>bU (jv t) λq=>bU (dv l.eD 2) λr=>some (⟨m,tZ .u32 (tZ .u32 q u.eD) r⟩,o):=by
 rfl
def LJ{L:List Fm}{t:Tm}(g:t.err=0){F:Fm}(hF:F.err=0){a b:Pf}{N:Nat}(X:gC L a N)(Y:gC L b N):gC L (.mk 16 0 .z [t] [F] [a,b]) (N+5):=by
 refine gC.of λn n' hn Z p c h=>?_;have j:=h.pl.nv;have H:=h.pl.ctx;have aa:=(Fm.ea hF).2;obtain⟨t1,t2,_⟩:=qs H.nat aae hF;obtain⟨s1,s2⟩:=has_both H j rfl g 1;rw[show n'+4=n'+2+2 from rfl,SA,M',R3,h.pl.acL,pS Ty.fO cw,bT,t1,bT,dc aae,b6,ei,t2,bT,s1,s2,bT,bT]
 by_cases o:F.ta (c.acL++[.nat])=0
 ·have r:=o;rw[<-uu (a:=_=_),<-ne_eq,<-cg] at r;rw[bV r,bV r,eX o];have d:=pj F (Fm.ea hF).1 _ H.nat o;have s:F.acN 1000000000=true:=d.acN _ aae
  by_cases u:mU t c.acL 1=0
  ·have r:=u;rw[<-uu (a:=_=_),<-ne_eq,<-cg] at r;rw[bV r,bV r,eX u];have E:cQ c.acL t .nat:=ya H g (.inl rfl) u;have K:qk c.acL F uI:=⟨hF,Zr,.nat,d,.zero⟩;rw[show dR 4 []=some uI from E8,bT];rcases qO j (X (n+2) (n'+1) cw cw p c h) K with⟨e,z,l,m,he,i,x,y,hu⟩|⟨f,m,l,i,x,y,hu⟩
   ·rw[i,x,y,bW,bW,bX (by rw[cg];exact he),bX (by rw[cg];exact he)];exact jR.no he rfl rfl rfl
   ·rw[i,x,y,bW,bW,bV nz,bV nz,dT];rcases h.room (v:=1) (k:=1) cw cw with⟨A,B,U,r4⟩|⟨A,B,U⟩
    ·have A:cK p.ey 1 1=some 0:=A;have B:cF c 1 1=some 0:=B;rw[A,B,bT,bT,bV nz,bV nz,jd cw];obtain⟨p1,c1,e1,e2,e3,I,M⟩:=h.below Ty.fO U;obtain⟨p2,J,b1,b2,V,O,W⟩:=e3.with (f:=F) (by rw[I];exact⟨hF,d⟩) (by rw[M];simpa using r4)
     have l1:c_ F 1 (di .i64 1 1)=some F:=by
      rw[dh cw cw];have:=(r7 hF s (f:=1) (c:=0) cw cw).1;rw[show F.up ((1:Nat):Int) ((0:Nat):Int)=F from q_] at this;exact this
     have l2:c_ F 1 1=some (F.up 1 1):=(r7 hF s (f:=1) (c:=1) cw cw).1;have l3:ft FU F 1 1=some (F.up 1 1):=(r7 hF s (f:=1) (c:=1) cw cw).2;rw[e1,e2,bT,bT,l1,bT,b1,b2,bT,bT,l2,l3,bT,bT];rw[show dR 5 [v0]=some (uw v0)from J4 gw,bT];have hi:=Y (n+2) (n'+1) cw cw p2 J V;have P:J.acL.length<=16:=V.pl.nv
     have G:J.acL=c.acL++[.nat]:=by rw[O,I]
     have Q:qk J.acL (F.up 1 1) (uw v0):=⟨zj hF cw cw,U0,.nat,by
      rw[G];have:=d.up c.acL [.nat] [.nat] rfl
      simpa using this,by rw[G];exact .succ wL⟩
     rcases qO P hi Q with⟨e,z,R,S,he,i,x,y,C⟩|⟨f',S,R,i,x,y,C⟩
     ·rw[O,W,I,M] at i;rw[i,x,y,bW,bW,bX (by rw[cg];exact he),bX (by rw[cg];exact he)];exact jR.no he rfl rfl rfl
     ·rw[O,W,I,M] at i;obtain⟨lf,f1,f2,f3⟩:=u6 j E g;have D:qk c.acL F t:=⟨hF,g,.nat,d,E⟩;obtain⟨u1,u2,u3⟩:=C.out (by have:=C.len;omega) (k:=1) cw;have u1:eb R 1=some (vn ((1:Nat):Int) R):=u1;have u2:dv (S:Int) 1=some ((S/2^1:Nat):Int):=u2;obtain⟨q,v1,v2,v3,_⟩:=f3.union hu (by have:=f3.len;omega) (by have:=hu.len;omega);obtain⟨q',w1,w2,w3,_⟩:=v3.union u3 (by have:=v3.len;omega) (by have:=u3.len;omega);rw[i,x,y,bW,bW,bV nz,bV nz,dT,(D.both cw).1,(D.both cw).2];obtain⟨w,e,hw⟩:∃w e,lr F t=(w,e):=⟨_,_,rfl⟩;rw[hw,bW,bW,f1,f2,bT,bT,u2,v1,bT,bT,u1,bT,w1,bT];simp only[];rw[v2,w2];rcases mo F t with T|⟨ab,T⟩
      ·rw[T] at hw;obtain⟨rfl,rfl⟩:=fH hw;rw[gj gw];exact jR.no gw rfl rfl rfl
      ·rw[T] at hw;obtain⟨rfl,rfl⟩:=fH hw;rw[eX rfl];exact jR.yes (f:=Fm.e_ 0 F t) rfl rfl rfl w3 D.put cw
    ·have A:cK p.ey 1 1=some 3:=A;have B:cF c 1 1=some 3:=B;rw[A,B,bT,bT,bX gw,bX gw,iy cw];exact jR.no gw rfl rfl rfl
  ·rw[bX (by rw[cg];exact u),bX (by rw[cg];exact u),gj u];exact jR.no u rfl rfl rfl
 ·rw[bX (by rw[cg];exact o),bX (by rw[cg];exact o),gj o];exact jR.no o rfl rfl rfl
def Lo{L:List Fm}{t:Tm}(g:t.err=0){F:Fm}(hF:F.err=0){a b:Pf}{N:Nat}(X:gC L a N)(Y:gC L b N):gC L (.mk 17 0 .z [t] [F] [a,b]) (N+5):=by
 refine gC.of λn n' hn Z p c h=>?_;have o:=h.pl.nv;have H:=h.pl.ctx;have aa:=(Fm.ea hF).2;obtain⟨t1,t2,_⟩:=qs H.lk aae hF;obtain⟨s1,s2⟩:=has_both H o rfl g 2;rw[show n'+4=n'+2+2 from rfl,Si,M3,SX,h.pl.acL,pS Ty.m7 cw,bT,t1,bT,dc aae,b6,ei,t2,bT,s1,s2,bT,bT]
 by_cases r:F.ta (c.acL++[.lk])=0
 ·have s:=r;rw[<-uu (a:=_=_),<-ne_eq,<-cg] at s;rw[bV s,bV s,eX r];have d:=pj F (Fm.ea hF).1 _ H.lk r;have i:F.acN 1000000000=true:=d.acN _ aae
  by_cases u:mU t c.acL 2=0
  ·have s:=u;rw[<-uu (a:=_=_),<-ne_eq,<-cg] at s;rw[bV s,bV s,eX u];have E:cQ c.acL t .lk:=ya H g (.inr rfl) u;have K:qk c.acL F (.mk 7 0 .z []):=⟨hF,S0,.lk,d,.nil⟩;rw[show dR 7 []=some (.mk 7 0 .z [])from E8,bT];rcases qO o (X (n+2) (n'+1) cw cw p c h) K with⟨e,z,l,m,he,j,x,y,hu⟩|⟨f,m,l,j,x,y,hu⟩
   ·rw[j,x,y,bW,bW,bX (by rw[cg];exact he),bX (by rw[cg];exact he)];exact jR.no he rfl rfl rfl
   ·rw[j,x,y,bW,bW,bV nz,bV nz,dT];rcases h.room (v:=2) (k:=1) cw cw with⟨A,B,U,r4⟩|⟨A,B,U⟩
    ·have A:cK p.ey 2 1=some 0:=A;have B:cF c 2 1=some 0:=B;rw[A,B,bT,bT,bV nz,bV nz,jd cw];obtain⟨p1,c1,e1,e2,e3,I,M⟩:=NH h U;obtain⟨p2,J,b1,b2,V,O,W⟩:=e3.with (f:=F.up 1 1) (by rw[I];exact⟨zj hF cw cw,by have:=d.up c.acL [.lk] [.nat] rfl;simpa using this⟩) (by rw[M];simpa using r4)
     have l1:c_ F 1 (di .i64 2 1)=some (F.up 1 1):=by
      rw[dh cw cw];exact(r7 hF i (f:=1) (c:=1) cw cw).1
     have l2:c_ F 1 2=some (F.up 1 2):=(r7 hF i (f:=1) (c:=2) cw cw).1;have l3:ft FU F 1 1=some (F.up 1 1):=(r7 hF i (f:=1) (c:=1) cw cw).2;have l4:ft FU F 1 2=some (F.up 1 2):=(r7 hF i (f:=1) (c:=2) cw cw).2;rw[e1,e2,bT,bT,l1,bT,l3,bT,b1,b2,bT,bT,l2,l4,bT,bT];rw[show dR 8 [v1,v0]=some (.mk 8 0 .z [v1,v0])from uf gw gw,bT];have hi:=Y (n+2) (n'+1) cw cw p2 J V;have P:J.acL.length<=16:=V.pl.nv
     have G:J.acL=c.acL++[.nat]++[.lk]:=by rw[O,I]
     have Q:qk J.acL (F.up 1 2) (.mk 8 0 .z [v1,v0]):=⟨zj hF cw cw,Wb,.lk,by
      rw[G];have:=d.up c.acL [.lk] [.nat,.lk] rfl
      simpa using this,by rw[G];exact .cons DZ wL⟩
     rcases qO P hi Q with⟨e,z,R,S,he,j,x,y,C⟩|⟨f',S,R,j,x,y,C⟩
     ·rw[O,W,I,M] at j;rw[j,x,y,bW,bW,bX (by rw[cg];exact he),bX (by rw[cg];exact he)];exact jR.no he rfl rfl rfl
     ·rw[O,W,I,M] at j;obtain⟨lf,f1,f2,f3⟩:=u6 o E g;have D:qk c.acL F t:=⟨hF,g,.lk,d,E⟩;obtain⟨u1,u2,u3⟩:=C.out (by have:=C.len;omega) (k:=2) cw;have u1:eb R 2=some (vn ((2:Nat):Int) R):=u1;have u2:dv (S:Int) 2=some ((S/2^2:Nat):Int):=u2;obtain⟨q,v1,v2,v3,_⟩:=f3.union hu (by have:=f3.len;omega) (by have:=hu.len;omega);obtain⟨q',w1,w2,w3,_⟩:=v3.union u3 (by have:=v3.len;omega) (by have:=u3.len;omega);rw[j,x,y,bW,bW,bV nz,bV nz,dT,(D.both cw).1,(D.both cw).2];obtain⟨w,e,hw⟩:∃w e,lr F t=(w,e):=⟨_,_,rfl⟩;rw[hw,bW,bW,f1,f2,bT,bT,u2,v1,bT,bT,u1,bT,w1,bT];simp only[];rw[v2,w2];rcases mo F t with T|⟨ab,T⟩
      ·rw[T] at hw;obtain⟨rfl,rfl⟩:=fH hw;rw[gj gw];exact jR.no gw rfl rfl rfl
      ·rw[T] at hw;obtain⟨rfl,rfl⟩:=fH hw;rw[eX rfl];exact jR.yes (f:=Fm.e_ 0 F t) rfl rfl rfl w3 D.put cw
    ·have A:cK p.ey 2 1=some 3:=A;have B:cF c 2 1=some 3:=B;rw[A,B,bT,bT,bX gw,bX gw,iy cw];exact jR.no gw rfl rfl rfl
  ·rw[bX (by rw[cg];exact u),bX (by rw[cg];exact u),gj u];exact jR.no u rfl rfl rfl
 ·rw[bX (by rw[cg];exact r),bX (by rw[cg];exact r),gj r];exact jR.no r rfl rfl rfl
end Go.dF
