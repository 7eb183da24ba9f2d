/- Part of the proof of KernelChoice: plain facts. -/
import Derived.Test.YtobcafblgapgfaaGreatDoorP1
set_option linter.all false
namespace Go.fg
open Go
def iA(a:Ty):a.jA a=true:=(Ty.jj a a).2 rfl
def j'{a b:Ty}(h:a≠b):a.jA b=false:=by
 cases hs:a.jA b with
 |false=>rfl|true=>exact absurd ((Ty.jj a b).1 hs) h
def ma{n:Nat}{g:List Ty}:∀(l:List Tm) (i:Nat) (v:List Ty),(∀a∈l,dZ n g a=some (a.ty g))->v.length+l.length<=1000->dH (λ(m:Int) (j:Tm)=>(λ(c:List Ty)=>
   cN (dZ n g j) λd f=>
   if(dr f 0)=true then(
   some (eA.ret ((Ty.mk 0 []),f)))
   else(fh (eC c [d])<|some (.next (fp c [d])))):Int->Tm->((List Ty))->(Option (eA ((List Ty)) (Ty×Int)))) l i v=some (match Tm.ra l g with|.inl ts=>.inl (v++ts)|.inr e=>.inr (.z,e))
 |[],i,v,_,_=>by simp[Tm.ra]|a::l,i,v,h,o=>by
  simp only[jW] at o;have p:=h a (by simp);rw[dC,Tm.ra];rw[p]
  by_cases k:(a.ty g).2=0
  ·rw[uc k,nR rfl];simp only[cF];rw[cB (by decide),dK (by simp;omega)];simp only[cL,cz,dL];rw[ma l (i+1) _ (λb q=>h b (by simp[q])) (by rw[eW];simp;omega),eW];cases Tm.ra l g with
   |inl ts=>simp|inr e=>rfl
  ·rw[nV k];generalize a.ty g=r at k;obtain⟨t,e⟩:=r;simp only[cF];rw[cG (by simpa[dr] using k)];rfl
def w5(l:List Tm)(g:List Ty):(∃e,e≠0/\Tm.ra l g=.inr e)\/∃ts,Tm.ra l g=.inl ts/\ts.length=l.length/\∀(i:Nat) (a:Tm),l[i]?=some a->∃s,ts[i]?=some s/\a.ty g=(s,0):=by
 induction l with
 |nil=>exact .inr ⟨[],by rw[Tm.ra],rfl,by simp⟩|cons a l f=>
  rw[Tm.ra]
  by_cases h:(a.ty g).2=0
  ·rw[nR h];rcases f with⟨e,he,c⟩|⟨ts,c,j,k⟩
   ·rw[c];exact .inl ⟨e,he,rfl⟩
   ·rw[c];refine .inr ⟨_,rfl,by simp[j],λi b d=>?_⟩;cases i with
    |zero=>simp at d;subst d;exact⟨_,by simp,uc h⟩
    |succ i=>simpa using k i b (by simpa using d)
  ·rw[nV h];exact .inl ⟨_,h,rfl⟩
def Ks{f:List Ty->Ty×Int}{e:Int}:rK f (.inr e)=(.z,e):=rfl
def l9{f:List Ty->Ty×Int}{l:List Ty}:rK f (.inl l)=f l:=rfl
def yF{a:Tm}{g:List Ty}(b:a.ok=true)(hg:iu g):(∃e,e≠0/\Tm.ra [a] g=.inr e)\/∃s,Tm.ra [a] g=.inl [s]/\s.err=0:=by
 rcases w5 [a] g with h|⟨ts,c,d,f⟩
 ·exact .inl h
 ·obtain⟨s,i,j⟩:=f 0 a rfl
  match ts,d with
  |[x],_=>
   obtain rfl:x=s:=by simpa using i
   exact .inr ⟨x,c,(ov _ a (hO _) b g hg _ j).2⟩
def zi{a b:Tm}{g:List Ty}(d:a.ok=true)(f:b.ok=true)(hg:iu g):(∃e,e≠0/\Tm.ra [a,b] g=.inr e)\/∃s t,Tm.ra [a,b] g=.inl [s,t]/\s.err=0/\t.err=0:=by
 rcases w5 [a,b] g with h|⟨ts,i,j,c⟩
 ·exact .inl h
 ·obtain⟨s,k,l⟩:=c 0 a rfl;obtain⟨t,m,n⟩:=c 1 b rfl
  match ts,j with
  |[x,y],_=>
   obtain rfl:x=s:=by simpa using k
   obtain rfl:y=t:=by simpa using m
   exact .inr ⟨x,y,i,(ov _ a (hO _) d g hg _ l).2,(ov _ b (hO _) f g hg _ n).2⟩
def yo{a b c:Tm}{g:List Ty}(f:a.ok=true)(i:b.ok=true)(j:c.ok=true)(hg:iu g):(∃e,e≠0/\Tm.ra [a,b,c] g=.inr e)\/∃s t u,Tm.ra [a,b,c] g=.inl [s,t,u]/\s.err=0/\t.err=0/\u.err=0:=by
 rcases w5 [a,b,c] g with h|⟨ts,k,l,d⟩
 ·exact .inl h
 ·obtain⟨s,m,n⟩:=d 0 a rfl;obtain⟨t,o,p⟩:=d 1 b rfl;obtain⟨u,q,r⟩:=d 2 c rfl
  match ts,l with
  |[x,y,z],_=>
   obtain rfl:x=s:=by simpa using m
   obtain rfl:y=t:=by simpa using o
   obtain rfl:z=u:=by simpa using q
   exact .inr ⟨x,y,z,k,(ov _ a (hO _) f g hg _ n).2,(ov _ b (hO _) i g hg _ p).2,(ov _ c (hO _) j g hg _ r).2⟩
def BH{t:Ty}(h:t.abf<=1000000000)(a:t.ok=true):qI t=some (if 64<t.abf then(.z,4)else(t,0)):=by
 unfold qI;rw[kF h];unfold Ty.err;rw[cG a];simp only[cz]
 split
 ·rfl
 ·rfl
section
variable{s x y z:Ty}
def wK:((x.abd=4/\x.abe.getD 0 .z=y)->fE 3 s [x,y]=(x.abe.getD 1 .z,0))/\(¬(x.abd=4/\x.abe.getD 0 .z=y)->fE 3 s [x,y]=(.z,7)):=by
 unfold fE;rw[cG rfl];exact⟨λh=>cG h,λh=>cB h⟩
def Ct:(x=.nat->fE 5 s [x]=(.nat,0))/\(x≠ .nat->fE 5 s [x]=(.z,7)):=by
 unfold fE;rw[cB (by decide),cB (by decide),cG rfl];exact⟨λh=>cG h,λh=>cB h⟩
def sJ:((x=s/\y=.fn .nat (.fn s s)/\z=.nat)->fE 6 s [x,y,z]=(s,0))/\(¬(x=s/\y=.fn .nat (.fn s s)/\z=.nat)->fE 6 s [x,y,z]=(.z,7)):=by
 unfold fE;rw[cB (by decide),cB (by decide),cB (by decide),cG rfl];exact⟨λh=>cG h,λh=>cB h⟩
def wN:((x=.nat/\y=.mT)->fE 8 s [x,y]=(.mT,0))/\(¬(x=.nat/\y=.mT)->fE 8 s [x,y]=(.z,7)):=by
 unfold fE;rw[cB (by decide),cB (by decide),cB (by decide),cB (by decide),cB (by decide),cG rfl];exact⟨λh=>cG h,λh=>cB h⟩
def sU:((x=s/\y=.fn .nat (.fn .mT (.fn s s))/\z=.mT)->fE 9 s [x,y,z]=(s,0))/\(¬(x=s/\y=.fn .nat (.fn .mT (.fn s s))/\z=.mT)->fE 9 s [x,y,z]=(.z,7)):=by
 unfold fE;rw[cB (by decide),cB (by decide),cB (by decide),cB (by decide),cB (by decide),cB (by decide),cG rfl];exact⟨λh=>cG h,λh=>cB h⟩
def Il:fE 10 s [x,y]=if 64<1+x.abf+y.abf then(.z,4)else(.pr x y,0):=by
 unfold fE;rw[cB (by decide),cB (by decide),cB (by decide),cB (by decide),cB (by decide),cB (by decide),cB (by decide),cG rfl];rfl
def Iv:fE 11 s [x]=if x.abd=3 then(x.abe.getD 0 .z,0)else(.z,7):=by
 unfold fE;rw[cB (by decide),cB (by decide),cB (by decide),cB (by decide),cB (by decide),cB (by decide),cB (by decide),cB (by decide),cG rfl];rfl
def I1:fE 12 s [x]=if x.abd=3 then(x.abe.getD 1 .z,0)else(.z,7):=by
 unfold fE;rw[cB (by decide),cB (by decide),cB (by decide),cB (by decide),cB (by decide),cB (by decide),cB (by decide),cB (by decide),cB (by decide),cG rfl];rfl
end
def vU:∀(n:Nat) (t:Tm),t.abf<=n->t.ok=true->∀g,iu g->g.length+t.abf<=1000000->dZ n g t=some (t.ty g):=by
 intro n
 induction n with
 |zero=>intro t h;have:=t.dg;omega
 |succ n m=>
  intro t hn L;refine Tm.mx (p:=λt=>t.abf<=n+1->∀g,iu g->g.length+t.abf<=1000000->dZ (n+1) g t=some (t.ty g)) ?_ ?_ ?_ ?_ ?_ ?_ ?_ ?_ ?_ ?_ ?_ ?_ ?_ t L hn
  ·intro i _ g hg k;rw[Tm.cI] at k;rw[dZ,cG (by rfl),Tm.ld,cG rfl]
   by_cases hi:(i:Int)<(g.length:Int)
   ·rw[cB (by simp only[Tm.eE,et,gP];omega),cG hi];simp only[Tm.eE,et];rw[dW (a:=(g.length:Int)) (by omega) (by omega),dW (by omega) (by omega)]
    have w:g.length-1-i<g.length:=by omega
    have:c_ g ((g.length:Int)-1-(i:Int))=some g[g.length-1-i]:=by
     unfold c_;rw[cG (by omega),show((g.length:Int)-1-(i:Int)).toNat=g.length-1-i by omega,na w]
    rw[this];simp only[cz];have F:=hg _ (BT w);rw[gI (by have:=dM F;omega)];simp only[cz,BM];rw[nk,na w];rfl
   ·rw[cG (by simp only[Tm.eE,et,gP];omega),cB hi];rfl
  ·intro s b hs k hn g hg d;rw[Tm.cI] at hn d;simp only[cX] at hn d;rw[dZ,cB (by simp),cG (by rfl),Tm.ld,cB (by decide),cG rfl,Tm.Xk];simp only[Tm.dI,Tm.cZ,dk,gz,cz,eW];rw[dK (by simp;omega),cL,m b (by omega) k (g++[s]) (hg.app hs) (by simp;omega)];have J:=λh=>(ov _ b (hO _) k (g++[s]) (hg.app hs) (b.ty (g++[s])).1 (uc h)).2;generalize b.ty (g++[s])=q at J;obtain⟨r,e⟩:=q;simp only[cF,Ip]
   by_cases G:e=0
   ·subst G;have K:r.err=0:=J rfl;have H:=dM hs;have M:=dM K;rw[cB (by decide),cB (by simp),gq (by omega) (by omega)];simp only[cz];rw[BH (t:=Ty.fn s r) (by rw[Ty.hP];omega) (Ty.ok_two (.inr rfl) (Ty.jt hs).1 (Ty.jt K).1),Ty.hP]
    split<;>rfl
   ·rw[cG (by simpa[dr] using G),cG G];rfl
  ·intro a b j k hn g hg d;rw[Tm.cI] at hn d;simp only[cX] at hn d;rw[dZ,cB (by simp),cB (by simp),Tm.ld,cB (by decide),cB (by decide)];simp only[cT,Tm.cZ,cW (l:=[a,b]) (by simp),cL];rw[ma [a,b] 0 [] (by intro x f;simp at f;rcases f with rfl|rfl<;>first|exact m _ (by omega) j g hg (by omega)|exact m _ (by omega) k g hg (by omega)) (by simp)];rcases zi j k hg with⟨e,he,h⟩|⟨s,t,h,hs,D⟩
   ·rw[h];rfl
   ·rw[h,l9];simp only[cz,cQ,ed,eX];rw[cG (by rfl)];simp only[mI,dk,eD,gz,kf,cz]
    by_cases o:s.abd=4
    ·obtain⟨x,y,rfl,f,hy⟩:=Ge hs o;rw[cB (by simp[Ty.fn,dr]),show(Ty.fn x y).abe[0]?=some x from rfl];simp only[cz];rw[gl (by have:=dM f;omega)];simp only[cz]
     by_cases A:x=t
     ·subst A;rw[iA,cB (by decide),show(Ty.fn x y).abe[1]?=some y from rfl,(wK (x:=.fn x y) (y:=x)).1 ⟨rfl,rfl⟩];rfl
     ·rw[j' A,cG (by decide),(wK (x:=.fn x y) (y:=t)).2 (λh=>A h.2)];rfl
    ·rw[cG (by simpa[dr] using o),cG trivial,wK.2 (λh=>o h.1)];rfl
  ·intro hn g hg d;rw[Tm.ld,cB (by decide),cB (by decide),Tm.ra];rfl
  ·intro a j hn g hg d;rw[Tm.cI] at hn d;simp only[cX] at hn d;rw[dZ,cB (by simp),cB (by simp),Tm.ld,cB (by decide),cB (by decide)];simp only[cT,Tm.cZ,cW (l:=[a]) (by simp),cL];rw[ma [a] 0 [] (by intro x f;simp at f;subst f;exact m _ (by omega) j g hg (by omega)) (by simp)];rcases yF j hg with⟨e,he,h⟩|⟨s,h,hs⟩
   ·rw[h];rfl
   ·rw[h,l9];simp only[cz,cQ,ed,eX];rw[cB (by simp),cB (by simp),cG (by rfl)];simp only[mI,dk,gz,cz];rw[gl (by have:=dM hs;omega)];simp only[cz]
    by_cases B:s=.nat
    ·subst B;rw[iA,cG rfl,Ct.1 rfl]
    ·rw[j' B,cB (by decide),Ct.2 B];rfl
  ·intro s a b c hs j k E hn g hg d;rw[Tm.cI] at hn d;simp only[cX] at hn d;rw[dZ,cB (by simp),cB (by simp),Tm.ld,cB (by decide),cB (by decide)];simp only[cT,Tm.cZ,cW (l:=[a,b,c]) (by simp),cL];rw[ma [a,b,c] 0 [] (by intro x f;simp at f;rcases f with rfl|rfl|rfl<;>first|exact m _ (by omega) j g hg (by omega)|exact m _ (by omega) k g hg (by omega)|exact m _ (by omega) E g hg (by omega)) (by simp)];rcases yo j k E hg with⟨e,he,h⟩|⟨x,y,z,h,f,hy,I⟩
   ·rw[h];rfl
   ·have H:=dM hs;rw[h,l9];simp only[cz,cQ,ed,eX];rw[cB (by simp),cB (by simp),cB (by simp),cG (by rfl)];simp only[mI,dk,eD,gu,gz,kf,cz,Tm.dI];rw[gl (by have:=dM f;omega)];simp only[cz]
    by_cases u:x=s
    ·subst u;rw[iA,cG rfl,gq (by omega) (by omega)];simp only[cz];rw[gq (by rw[Ty.ga];omega) (by rw[Ty.hP];omega)];simp only[cz];rw[gl (by have:=dM hy;omega)];simp only[cz]
     by_cases v:y=.fn .nat (.fn x x)
     ·subst v;rw[iA,cG rfl,gl (by have:=dM I;omega)];simp only[cz]
      by_cases C:z=.nat
      ·subst C;rw[iA,cB (by decide),gI (by omega),sJ.1 ⟨rfl,rfl,rfl⟩];rfl
      ·rw[j' C,cG (by decide),sJ.2 (λh=>C h.2.2)];rfl
     ·rw[j' v,cB (by decide),cG trivial,sJ.2 (λh=>v h.2.1)];rfl
    ·rw[j' u,cB (by decide),cG trivial,sJ.2 (λh=>u h.1)];rfl
  ·intro hn g hg d;rw[Tm.ld,cB (by decide),cB (by decide),Tm.ra];rfl
  ·intro a b j k hn g hg d;rw[Tm.cI] at hn d;simp only[cX] at hn d;rw[dZ,cB (by simp),cB (by simp),Tm.ld,cB (by decide),cB (by decide)];simp only[cT,Tm.cZ,cW (l:=[a,b]) (by simp),cL];rw[ma [a,b] 0 [] (by intro x f;simp at f;rcases f with rfl|rfl<;>first|exact m _ (by omega) j g hg (by omega)|exact m _ (by omega) k g hg (by omega)) (by simp)];rcases zi j k hg with⟨e,he,h⟩|⟨s,t,h,hs,D⟩
   ·rw[h];rfl
   ·rw[h,l9];simp only[cz,cQ,ed,eX];rw[cB (by simp),cB (by simp),cB (by simp),cB (by simp),cB (by simp),cG (by rfl)];simp only[mI,dk,eD,gz,kf,cz];rw[gl (by have:=dM hs;omega)];simp only[cz]
    by_cases u:s=.nat
    ·subst u;rw[iA,cG rfl,gl (by have:=dM D;omega)];simp only[cz]
     by_cases v:t=.mT
     ·subst v;rw[iA,cB (by decide),wN.1 ⟨rfl,rfl⟩]
     ·rw[j' v,cG (by decide),wN.2 (λh=>v h.2)];rfl
    ·rw[j' u,cB (by decide),cG trivial,wN.2 (λh=>u h.1)];rfl
  ·intro s a b c hs j k E hn g hg d;rw[Tm.cI] at hn d;simp only[cX] at hn d;rw[dZ,cB (by simp),cB (by simp),Tm.ld,cB (by decide),cB (by decide)];simp only[cT,Tm.cZ,cW (l:=[a,b,c]) (by simp),cL];rw[ma [a,b,c] 0 [] (by intro x f;simp at f;rcases f with rfl|rfl|rfl<;>first|exact m _ (by omega) j g hg (by omega)|exact m _ (by omega) k g hg (by omega)|exact m _ (by omega) E g hg (by omega)) (by simp)];rcases yo j k E hg with⟨e,he,h⟩|⟨x,y,z,h,f,hy,I⟩
   ·rw[h];rfl
   ·have H:=dM hs;rw[h,l9];simp only[cz,cQ,ed,eX];rw[cB (by simp),cB (by simp),cB (by simp),cB (by simp),cB (by simp),cB (by simp),cG (by rfl)];simp only[mI,dk,eD,gu,gz,kf,cz,Tm.dI];rw[gl (by have:=dM f;omega)];simp only[cz]
    by_cases u:x=s
    ·subst u;rw[iA,cG rfl,gq (by omega) (by omega)];simp only[cz];rw[gq (by rw[Ty.mM];omega) (by rw[Ty.hP];omega)];simp only[cz];rw[gq (by rw[Ty.ga];omega) (by rw[Ty.hP,Ty.hP,Ty.mM];omega)];simp only[cz];rw[gl (by have:=dM hy;omega)];simp only[cz]
     by_cases v:y=.fn .nat (.fn .mT (.fn x x))
     ·subst v;rw[iA,cG rfl,gl (by have:=dM I;omega)];simp only[cz]
      by_cases C:z=.mT
      ·subst C;rw[iA,cB (by decide),gI (by omega),sU.1 ⟨rfl,rfl,rfl⟩];rfl
      ·rw[j' C,cG (by decide),sU.2 (λh=>C h.2.2)];rfl
     ·rw[j' v,cB (by decide),cG trivial,sU.2 (λh=>v h.2.1)];rfl
    ·rw[j' u,cB (by decide),cG trivial,sU.2 (λh=>u h.1)];rfl
  ·intro a b j k hn g hg d;rw[Tm.cI] at hn d;simp only[cX] at hn d;rw[dZ,cB (by simp),cB (by simp),Tm.ld,cB (by decide),cB (by decide)];simp only[cT,Tm.cZ,cW (l:=[a,b]) (by simp),cL];rw[ma [a,b] 0 [] (by intro x f;simp at f;rcases f with rfl|rfl<;>first|exact m _ (by omega) j g hg (by omega)|exact m _ (by omega) k g hg (by omega)) (by simp)];rcases zi j k hg with⟨e,he,h⟩|⟨s,t,h,hs,D⟩
   ·rw[h];rfl
   ·have H:=dM hs;have M:=dM D;rw[h,l9];simp only[cz,cQ,ed,eX];rw[cB (by simp),cB (by simp),cB (by simp),cB (by simp),cB (by simp),cB (by simp),cB (by simp),cG (by rfl)];simp only[mI,dk,eD,gz,kf,cz];rw[uO (by omega) (by omega)];simp only[cz];rw[BH (t:=Ty.pr s t) (by rw[Ty.rH];omega) (Ty.ok_two (.inl rfl) (Ty.jt hs).1 (Ty.jt D).1),Ty.rH];rw[Il]
    split<;>rfl
  ·intro a j hn g hg d;rw[Tm.cI] at hn d;simp only[cX] at hn d;rw[dZ,cB (by simp),cB (by simp),Tm.ld,cB (by decide),cB (by decide)];simp only[cT,Tm.cZ,cW (l:=[a]) (by simp),cL];rw[ma [a] 0 [] (by intro x f;simp at f;subst f;exact m _ (by omega) j g hg (by omega)) (by simp)];rcases yF j hg with⟨e,he,h⟩|⟨s,h,hs⟩
   ·rw[h];rfl
   ·rw[h,l9];simp only[cz,cQ,ed,eX];rw[cB (by simp),cB (by simp),cB (by simp),cB (by simp),cB (by simp),cB (by simp),cB (by simp),cB (by simp),cG (by rfl)];simp only[mI,dk,gz,cz];rw[Iv]
    by_cases o:s.abd=3
    ·obtain⟨x,y,rfl,f,hy⟩:=w7 hs o;rw[cB (by simp[Ty.pr,dr]),cG (by rfl),cG (show(Ty.pr x y).abd=3 from rfl)];rfl
    ·rw[cG (by simpa[dr] using o),cB o];rfl
  ·intro a j hn g hg d;rw[Tm.cI] at hn d;simp only[cX] at hn d;rw[dZ,cB (by simp),cB (by simp),Tm.ld,cB (by decide),cB (by decide)];simp only[cT,Tm.cZ,cW (l:=[a]) (by simp),cL];rw[ma [a] 0 [] (by intro x f;simp at f;subst f;exact m _ (by omega) j g hg (by omega)) (by simp)];rcases yF j hg with⟨e,he,h⟩|⟨s,h,hs⟩
   ·rw[h];rfl
   ·rw[h,l9];simp only[cz,cQ,ed,eX];rw[cB (by simp),cB (by simp),cB (by simp),cB (by simp),cB (by simp),cB (by simp),cB (by simp),cB (by simp),cG (by rfl)];simp only[mI,dk,gz,cz];rw[I1]
    by_cases o:s.abd=3
    ·obtain⟨x,y,rfl,f,hy⟩:=w7 hs o;rw[cB (by simp[Ty.pr,dr]),cB (by simp),cG (show(Ty.pr x y).abd=3 from rfl)];rfl
    ·rw[cG (by simpa[dr] using o),cB o];rfl
  ·intro hn g hg d;rw[Tm.ld,cB (by decide),cB (by decide),Tm.ra];rfl
end Go.fg
namespace Go.fg
open Go
def Ee:eU=dR:=by
 funext n
 induction n with
 |zero=>rfl|succ n c=>
  funext a b
  rw[eU,dR,c]
def m4{a b:Ty}(h:a.abf<=1000000000):eU FU a b=some (a.jA b):=by rw[Ee];exact gl h
def qw(t:Ty):cH:=⟨t,(t.abf:Int)⟩
def M_:cH:=⟨.mk 0 [],0⟩
def EI(r:Ty×Int):cH×Int:=if r.2=0 then(qw r.1,0)else(M_,r.2)
@[simp] theorem m9(t:Ty):EI (t,0)=(qw t,0):=cG rfl
def j5{t:Ty}{e:Int}(h:e≠0):EI (t,e)=(M_,e):=cB h
@[simp] theorem rB(t:Ty):(qw t).cD=t:=by rfl
@[simp] theorem FW(t:Ty):(qw t).abf=(t.abf:Int):=by rfl
def jD{t:Ty}(h:t.err=0):kT t=some (qw t):=by
 unfold kT;rw[j0 (by have:=dM h;omega),cG h];rfl
def vF(k:Int){a b:Ty}(c:a.abf<=1000000)(d:b.abf<=1000000):o8 k (qw a) (qw b)=some (if 64<1+a.abf+b.abf then(M_,4)else(qw (.mk k [a,b]),0)):=by
 unfold o8;simp only[FW,rB];rw[dJ (a:=1) (by omega) (by omega),dJ (by omega) (by omega)]
 by_cases h:64<1+a.abf+b.abf
 ·rw[cG (by simp only[eO];omega),cG h];rfl
 ·rw[cB (by simp only[eO];omega),cB h];unfold qw;rw[Ty.wL]
  congr 3
def pS{a b:Ty}(c:a.abf<=1000000):je (qw a) (qw b)=some (a.jA b):=by
 unfold je;simp only[cT,FW,rB]
 by_cases h:(a.abf:Int)=(b.abf:Int)
 ·rw[cG (by simpa[de] using h),m4 (by omega)];rfl
 ·rw[cB (by simpa[de] using h),j' (by rintro rfl;exact h rfl)]
def pW{t x:Ty}{i:Int}(h:c_ t.abe i=some x)(a:x.err=0):hV (qw t) i=some (qw x):=by
 unfold hV;simp only[rB,h,cz,jD a]
def mX:la=some .nat:=rfl
def yI:ux=some .mT:=rfl
def OC{l:List Ty}(d:l.length<=1000):∀(i m:Nat) (k:Int) (as:List Ty),i<=l.length->i<m->lu ((Jc λ(a:Int) (v49:Int) (b:List Ty)=>
   if(qT a 0)=true then(
   cA (c_ l a) λc=>
   some (.next ((dX .i64 a 1),4,[c,(Ty.mk v49 b)])))
   else(some (.zO (a,v49,b)))):(Int×Int×(List Ty))->(Option (eA (Int×Int×(List Ty)) (Ty)))) m ((i:Int)-1,k,as)=some (.inl (-1,((l.take i).foldr Ty.fn (.mk k as)).abd,((l.take i).foldr Ty.fn (.mk k as)).abe))
 |0,m+1,k,as,_,_=>by
  rw[lE];simp only[Jc];rw[cB (by rw[gP];omega)];rfl
 |i+1,m+1,k,as,hi,hm=>by
  rw[lE];simp only[Jc];rw[cG (by rw[gP];omega),show((i+1:Nat):Int)-1=(i:Int) by omega,hB,na (by omega)];simp only[cz,dL];rw[dW (by omega) (by omega)];have h:=OC d i m 4 [l[i],.mk k as] (by omega) (by omega);rw[h,vj,na (by omega)];simp only[JW,Wo,List.foldr_cons,List.foldr_nil];rfl
def wu(t:Ty)(l:List Ty)(a:l.length<=1000):my t l=some (l.foldr Ty.fn t):=by
 unfold my;simp only[cT];rw[et,dW (by omega) (by omega)];have h:=OC a l.length FU t.abd t.abe (hO _) (Rs (by omega));rw[h,cz];rw[List.take_length]
 have e:Ty.mk t.abd t.abe=t:=by cases t;rfl
 rw[e];generalize List.foldr Ty.fn t l=r;cases r;rfl
def L'(a b t:Ty):my t [a,b]=some (.fn a (.fn b t)):=wu t [a,b] (by simp)
def LZ(a b c t:Ty):my t [a,b,c]=some (.fn a (.fn b (.fn c t))):=wu t [a,b,c] (by simp)
def MY(a t:Ty):my t [a]=some (.fn a t):=wu t [a] (by simp)
def p8:List Ty->cH×cH×cH
 |[]=>(M_,M_,M_)|[a]=>(qw a,M_,M_)|[a,b]=>(qw a,qw b,M_)|a::b::c::_=>(qw a,qw b,qw c)
def Bk(x:cH)(k:Int):hI x k=some (de x.cD.abd k):=rfl
def Bi(t:Ty)(k:Int):de (qw t).cD.abd k=decide (t.abd=k):=by
 rw[rB];exact nP _ _
def BY(s:Ty)(l:List Tm)(i:Int):m8 (.mk 6 i s l)=some (.fn .nat (.fn s s)):=by
 unfold m8;rw[cB (by simp)];simp only[mX,cz];rw[L'];rfl
def zP(s:Ty)(l:List Tm)(i:Int):m8 (.mk 9 i s l)=some (.fn .nat (.fn .mT (.fn s s))):=by
 unfold m8;rw[cG (by simp)];simp only[mX,yI,cz];rw[LZ];rfl
section
variable{s x y z:Ty} {i:Int} {l:List Tm}
def NO(f:x.err=0)(hy:y.err=0):eK (.mk 3 i s l) (p8 [x,y])=some (EI (fE 3 s [x,y])):=by
 unfold eK;rw[show im (Tm.mk 3 i s l).abd=some [] from rfl];simp only[cz];rw[cB (by simp),cG (by rfl)];simp only[cT,p8,Bk,cz,Bi]
 by_cases d:x.abd=4
 ·obtain⟨a,b,rfl,e,g⟩:=Ge f d;rw[cG (by rfl),pW (t:=.fn a b) (x:=a) rfl e];simp only[cz];rw[pS (by have:=dM e;omega)];simp only[cz]
  by_cases c:a=y
  ·subst c;rw[iA,cB (by simp),pW (t:=.fn a b) (x:=b) rfl g,(wK (x:=.fn a b) (y:=a)).1 ⟨rfl,rfl⟩];simp only[cz];rw[show(Ty.fn a b).abe.getD 1 .z=b from rfl,m9]
  ·rw[j' c,cG (by simp),(wK (x:=.fn a b) (y:=y)).2 (λh=>c h.2),j5 (by decide)];rfl
 ·rw[cB (by simpa using d),cG trivial,wK.2 (λh=>d h.1),j5 (by decide)];rfl
def MO(a:x.err=0)(hy:y.err=0):eK (.mk 10 i s l) (p8 [x,y])=some (EI (fE 10 s [x,y])):=by
 unfold eK;rw[show im (Tm.mk 10 i s l).abd=some [] from rfl];simp only[cz];rw[cB (by simp),cB (by simp),cB (by simp),cG (by rfl)];simp only[p8];rw[vF 3 (by have:=dM a;omega) (by have:=dM hy;omega),Il]
 split
 ·simp only[cF];rw[j5 (by decide)]
 ·simp only[cF];rw[m9];rfl
def Oo(d:x.err=0):eK (.mk 11 i s l) (p8 [x])=some (EI (fE 11 s [x])):=by
 unfold eK;rw[show im (Tm.mk 11 i s l).abd=some [] from rfl];simp only[cz];rw[cB (by simp),cB (by simp),cB (by simp),cB (by simp)];simp only[p8,Bk,cz,Bi];rw[Iv]
 by_cases c:x.abd=3
 ·obtain⟨a,b,rfl,e,f⟩:=w7 d c;rw[cG (by rfl),cG (by rfl),pW (t:=.pr a b) (x:=a) rfl e,cG (show(Ty.pr a b).abd=3 from rfl)];simp only[cz];rw[show(Ty.pr a b).abe.getD 0 .z=a from rfl,m9]
 ·rw[cB (by simpa using c),cB c,j5 (by decide)];rfl
def Nc(d:x.err=0):eK (.mk 12 i s l) (p8 [x])=some (EI (fE 12 s [x])):=by
 unfold eK;rw[show im (Tm.mk 12 i s l).abd=some [] from rfl];simp only[cz];rw[cB (by simp),cB (by simp),cB (by simp),cB (by simp)];simp only[p8,Bk,cz,Bi];rw[I1]
 by_cases c:x.abd=3
 ·obtain⟨a,b,rfl,f,e⟩:=w7 d c;rw[cG (by rfl),cB (by simp),pW (t:=.pr a b) (x:=b) rfl e,cG (show(Ty.pr a b).abd=3 from rfl)];simp only[cz];rw[show(Ty.pr a b).abe.getD 1 .z=b from rfl,m9]
 ·rw[cB (by simpa using c),cB c,j5 (by decide)];rfl
end
end Go.fg
namespace Go.fg
open Go
section
variable{s x y z:Ty} {i:Int} {l:List Tm}
def vO{k t:Int}(a:im k=some [t])(b:Ty.err (.mk t [])=0):eK (.mk k i s l) (p8 [])=some (qw (.mk t []),0):=by
 unfold eK;rw[show(Tm.mk k i s l).abd=k from rfl,a,cz,cG (show mV (dm [t]) 0=true by rfl),show xO [t] 1 (dm [t])=some ([]:List Int)from rfl];simp only[cz,cW (l:=([]:List Int)) (by simp),cL,cT,oA,cQ,dk,gz];rw[jD b];rfl
def LW:eK (.mk 4 i s l) (p8 [])=some (EI (fE 4 s [])):=vO rfl Ty.fZ
def O5:eK (.mk 7 i s l) (p8 [])=some (EI (fE 7 s [])):=vO rfl Ty.nO
def MS:eK (.mk 13 i s l) (p8 [])=some (EI (fE 13 s [])):=vO rfl Ty.DV
def Mb(b:x.err=0):eK (.mk 5 i s l) (p8 [x])=some (EI (fE 5 s [x])):=by
 unfold eK;rw[show im (Tm.mk 5 i s l).abd=some [1,1] from rfl,cz,cG (show mV (dm ([1,1]:List Int)) 0=true by rfl),show xO ([1,1]:List Int) 1 (dm ([1,1]:List Int))=some [1] from rfl];simp only[cz,cW (l:=([1]:List Int)) (by simp),cL,cT,p8];rw[dC,cG (by rfl)];simp only[Bk,cz,Bi]
 by_cases a:x.abd=1
 ·have hn:=(se b).1 a;subst hn;rw[sw (by rfl),cB (by decide)];simp only[cz,dL,oA,cQ,dk,gz];rw[show kT (Ty.mk 1 [])=some (qw .nat)from jD Ty.fZ,Ct.1 rfl,m9];rfl
 ·rw[Ae a,cG (by decide),Ct.2 (λh=>a ((se b).2 h)),j5 (by decide)];rfl
def Mf(c:x.err=0)(hy:y.err=0):eK (.mk 8 i s l) (p8 [x,y])=some (EI (fE 8 s [x,y])):=by
 unfold eK;rw[show im (Tm.mk 8 i s l).abd=some [2,1,2] from rfl,cz,cG (show mV (dm ([2,1,2]:List Int)) 0=true by rfl),show xO ([2,1,2]:List Int) 1 (dm ([2,1,2]:List Int))=some [1,2] from rfl];simp only[cz,cW (l:=([1,2]:List Int)) (by simp),cL,cT,p8];rw[dC,cG (by rfl)];simp only[Bk,cz,Bi]
 by_cases b:x.abd=1
 ·have hn:=(se c).1 b;subst hn;rw[sw (by rfl),cB (by decide)];simp only[cz,dL];rw[dC,cB (by decide),cG (by rfl)]
  by_cases a:y.abd=2
  ·have hn:=(zm hy).1 a;subst hn;rw[sw (by rfl),cB (by decide)];simp only[cz,dL,oA,cQ,dk,gz];rw[show kT (Ty.mk 2 [])=some (qw .mT)from jD Ty.nO,wN.1 ⟨rfl,rfl⟩,m9];rfl
  ·rw[Ae a,cG (by decide),wN.2 (λh=>a ((zm hy).2 h.2)),j5 (by decide)];rfl
 ·rw[Ae b,cG (by decide),wN.2 (λh=>b ((se c).2 h.1)),j5 (by decide)];rfl
def Ob(hs:s.err=0)(d:x.err=0)(hy:y.err=0)(e:z.err=0):eK (.mk 6 i s l) (p8 [x,y,z])=some (EI (fE 6 s [x,y,z])):=by
 unfold eK;rw[show im (Tm.mk 6 i s l).abd=some [] from rfl];simp only[cz];rw[cB (by decide),cB (by simp),cG (by rfl)];simp only[cT,p8,Tm.dI,jD hs,cz];rw[pS (by have:=dM d;omega)];simp only[cz]
 by_cases a:x=s
 ·subst a;rw[iA,cG rfl,BY];simp only[cz,rB];rw[m4 (by have:=dM hy;omega)];simp only[cz]
  by_cases b:y=.fn .nat (.fn x x)
  ·subst b;rw[iA,cG rfl];simp only[Bk,cz];rw[show ew (de (Tm.mk 6 i x l).abd 9) (2:Int) 1=1 from rfl];simp only[Bi]
   by_cases c:z=.nat
   ·subst c;rw[sw (by rfl),cB (by decide),sJ.1 ⟨rfl,rfl,rfl⟩,m9]
   ·rw[Ae (λh=>c ((se e).1 h)),cG (by decide),sJ.2 (λh=>c h.2.2),j5 (by decide)];rfl
  ·rw[j' b,cB (by decide),cG trivial,sJ.2 (λh=>b h.2.1),j5 (by decide)];rfl
 ·rw[j' a,cB (by decide),cG trivial,sJ.2 (λh=>a h.1),j5 (by decide)];rfl
def MH(hs:s.err=0)(d:x.err=0)(hy:y.err=0)(e:z.err=0):eK (.mk 9 i s l) (p8 [x,y,z])=some (EI (fE 9 s [x,y,z])):=by
 unfold eK;rw[show im (Tm.mk 9 i s l).abd=some [] from rfl];simp only[cz];rw[cB (by decide),cB (by simp),cG (by rfl)];simp only[cT,p8,Tm.dI,jD hs,cz];rw[pS (by have:=dM d;omega)];simp only[cz]
 by_cases a:x=s
 ·subst a;rw[iA,cG rfl,zP];simp only[cz,rB];rw[m4 (by have:=dM hy;omega)];simp only[cz]
  by_cases b:y=.fn .nat (.fn .mT (.fn x x))
  ·subst b;rw[iA,cG rfl];simp only[Bk,cz];rw[show ew (de (Tm.mk 9 i x l).abd 9) (2:Int) 1=2 from rfl];simp only[Bi]
   by_cases c:z=.mT
   ·subst c;rw[sw (by rfl),cB (by decide),sU.1 ⟨rfl,rfl,rfl⟩,m9]
   ·rw[Ae (λh=>c ((zm e).1 h)),cG (by decide),sU.2 (λh=>c h.2.2),j5 (by decide)];rfl
  ·rw[j' b,cB (by decide),cG trivial,sU.2 (λh=>b h.2.1),j5 (by decide)];rfl
 ·rw[j' a,cB (by decide),cG trivial,sU.2 (λh=>a h.1),j5 (by decide)];rfl
end
def Rx(p:cH×cH×cH):Int×(List Ty)×Int×Int×(List Ty)×Int×Int×(List Ty)×Int:=
 (p.1.cD.abd,p.1.cD.abe,p.1.abf,p.2.1.cD.abd,p.2.1.cD.abe,p.2.1.abf,p.2.2.cD.abd,p.2.2.cD.abe,p.2.2.abf)
def Bg{n:Nat}{g:List Ty}:∀(l:List Tm) (d:List Ty),d.length+l.length<=3->(∀a∈l,du n (g.map qw) a=some (EI (a.ty g)))->dH (λ(f:Int) (x:Tm)=>(Wc λ(i:Int) (j:List Ty) (v218:Int) (k:Int) (m:List Ty) (o:Int) (v222:Int) (p:List Ty) (q:Int)=>
   cN (du n (g.map qw) x) λc s=>
   if(dr s 0)=true then(
   some (.ret ((cH.mk (Ty.mk 0 []) 0),s)))
   else(if(de f 0)=true then(
   some (.next (c.cD.abd,c.cD.abe,c.abf,k,m,o,v222,p,q)))
   else(if(de f 1)=true then(
   some (.next (i,j,v218,c.cD.abd,c.cD.abe,c.abf,v222,p,q)))
   else(fh (de f 2)<|some (.next (i,j,v218,k,m,o,c.cD.abd,c.cD.abe,c.abf)))))):Int->Tm->(Int×(List Ty)×Int×Int×(List Ty)×Int×Int×(List Ty)×Int)->(Option (eA (Int×(List Ty)×Int×Int×(List Ty)×Int×Int×(List Ty)×Int) (cH×Int)))) l d.length (Rx (p8 d))=some (match Tm.ra l g with|.inl ts=>.inl (Rx (p8 (d++ts)))|.inr e=>.inr (M_,e))
 |[],d,_,_=>by simp[Tm.ra]|a::l,d,y,h=>by
  simp only[jW] at y;rw[dC,Tm.ra];have B:=h a (by simp);simp only[Rx,Wc];rw[B]
  by_cases w:(a.ty g).2=0
  ·rw[uc w,nR rfl,m9,cF,cB (by decide)];generalize (a.ty g).1=t
   have go:∀A:List Ty,A=d++[t]->(some (eA.next (Rx (p8 A))):Option (eA (Int×(List Ty)×Int×Int×(List Ty)×Int×Int×(List Ty)×Int) (cH×Int)))=some (eA.next (Rx (p8 (d++[t])))):=λA e=>by rw[e]
   have z:=Bg l (d++[t]) (by simp;omega) (λb C=>h b (by simp[C]));rw[pJ,jW,tH] at z
   have fin:(some (match Tm.ra l g with|.inl ts=>.inl (Rx (p8 (d++[t]++ts)))|.inr e=>.inr (M_,e)):Option ((Int×(List Ty)×Int×Int×(List Ty)×Int×Int×(List Ty)×Int)⊕(cH×Int)))=some (match(match Tm.ra l g with|.inl ts=>Sum.inl (t::ts)|.inr e=>Sum.inr e:List Ty⊕Int)with|.inl ts=>.inl (Rx (p8 (d++ts)))|.inr e=>.inr (M_,e)):=by
    cases Tm.ra l g with
    |inl ts=>simp|inr e=>rfl
   match d,y with
   |[],_=>
    rw[cG (by rfl)];exact z.trans fin
   |[u],_=>
    rw[cB (by simp),cG (by rfl)];exact z.trans fin
   |[u,v],_=>
    rw[cB (by simp),cB (by simp),show de (([u,v].length:Nat):Int) 2=true from rfl,cL];exact z.trans fin
   |_::_::_::_,y=>simp at y;omega
  ·rw[nV w];generalize a.ty g=r at w;obtain⟨t,e⟩:=r;simp only at w;rw[j5 w,cF,cG (by simpa[dr] using w)];rfl
def QM(p:cH×cH×cH):((cH.mk (Ty.mk p.1.cD.abd p.1.cD.abe) p.1.abf),(cH.mk (Ty.mk p.2.1.cD.abd p.2.1.cD.abe) p.2.1.abf),(cH.mk (Ty.mk p.2.2.cD.abd p.2.2.cD.abe) p.2.2.abf))=p:=by
 have e:∀t:Ty,Ty.mk t.abd t.abe=t:=λt=>by cases t;rfl
 obtain⟨⟨a,b⟩,⟨c,d⟩,⟨g,f⟩⟩:=p;simp only[e]
def jK{n:Nat}{g:List Ty}{k i:Int}{s:Ty}{l:List Tm}(m:k≠1)(q:k≠2)(r:l.length<=3)(h:∀a∈l,du n (g.map qw) a=some (EI (a.ty g)))
  (hn:∀ts,Tm.ra l g=.inl ts->eK (.mk k i s l) (p8 ts)=some (EI (fE k s ts))):du (n+1) (g.map qw) (.mk k i s l)=some (EI ((Tm.mk k i s l).ty g)):=by
 rw[du,cB (by simpa[de] using m),cB (by simpa[de] using q),Tm.ld,cB m,cB q];simp only[cT,Tm.cZ];rw[cW (by omega),cL];have f:=Bg l [] (by simpa using r) h;refine(congrArg (λo=>cA o _) f).trans ?_;simp only[cz];cases j:Tm.ra l g with
 |inr e=>
  rw[Ks]
  have he:e≠0:=by
   rcases w5 l g with⟨t,d,c⟩|⟨ts,d,_⟩
   ·rw[j] at c;cases c;exact d
   ·rw[j] at d;cases d
  rw[j5 he];rfl
 |inl ts=>
  simp only[mI,cQ,l9,Rx,Wc];rw[QM,hn ts j,show∀p:cH×Int,(cN (some p) λa b=>some (a,b))=some p fromλ_=>rfl]
end Go.fg
namespace Go.fg
open Go
def vR(g:List Ty)(s:Ty):g.map qw++[qw s]=(g++[s]).map qw:=by simp
def AM:∀(n:Nat) (t:Tm),t.abf<=n->t.ok=true->∀g,iu g->g.length+t.abf<=1000000->du n (g.map qw) t=some (EI (t.ty g)):=by
 intro n
 induction n with
 |zero=>intro t h;have:=t.dg;omega
 |succ n l=>
  intro t hn B
  have one:∀{a:Tm} {g:List Ty} {ts:List Ty},a.ok=true->iu g->Tm.ra [a] g=.inl ts->∃x,ts=[x]/\x.err=0:=by
   intro a g ts j hg h;rcases yF j hg with⟨e,_,o⟩|⟨x,o,f⟩<;>rw[h] at o<;>cases o;exact⟨x,rfl,f⟩
  have two:∀{a b:Tm} {g:List Ty} {ts:List Ty},a.ok=true->b.ok=true->iu g->Tm.ra [a,b] g=.inl ts->∃x y,ts=[x,y]/\x.err=0/\y.err=0:=by
   intro a b g ts j k hg h;rcases zi j k hg with⟨e,_,o⟩|⟨x,y,o,f,hy⟩<;>rw[h] at o<;>cases o;exact⟨x,y,rfl,f,hy⟩
  have three:∀{a b c:Tm} {g:List Ty} {ts:List Ty},a.ok=true->b.ok=true->c.ok=true->iu g->Tm.ra [a,b,c] g=.inl ts->∃x y z,ts=[x,y,z]/\x.err=0/\y.err=0/\z.err=0:=by
   intro a b c g ts j k m hg h;rcases yo j k m hg with⟨e,_,o⟩|⟨x,y,z,o,f,hy,u⟩<;>rw[h] at o<;>cases o;exact⟨x,y,z,rfl,f,hy,u⟩
  refine Tm.mx (p:=λt=>t.abf<=n+1->∀g,iu g->g.length+t.abf<=1000000->du (n+1) (g.map qw) t=some (EI (t.ty g))) ?_ ?_ ?_ ?_ ?_ ?_ ?_ ?_ ?_ ?_ ?_ ?_ ?_ t B hn
  ·intro i _ g hg k;rw[Tm.cI] at k;rw[du,cG (by rfl),Tm.ld,cG rfl];simp only[Tm.eE,et,BK]
   by_cases hi:(i:Int)<(g.length:Int)
   ·rw[cB (by simp only[gP];omega),cG hi];rw[dW (a:=(g.length:Int)) (by omega) (by omega),dW (by omega) (by omega)]
    have v:g.length-1-i<g.length:=by omega
    have:c_ (g.map qw) ((g.length:Int)-1-(i:Int))=some (qw g[g.length-1-i]):=by
     unfold c_;rw[cG (by omega),show((g.length:Int)-1-(i:Int)).toNat=g.length-1-i by omega,uZ,na v];rfl
    rw[this];simp only[cz,BM];rw[nk,na v];exact congrArg some (m9 _).symm
   ·rw[cG (by simp only[gP];omega),cB hi,j5 (by decide)];rfl
  ·intro s b hs k hn g hg d;rw[Tm.cI] at hn d;simp only[cX] at hn d;rw[du,cB (by simp),cG (by rfl),Tm.ld,cB (by decide),cG rfl,Tm.Xk];simp only[Tm.dI,Tm.cZ,jD hs,dk,gz,cz,eW];rw[dK (by simp;omega),cL,vR,l b (by omega) k (g++[s]) (hg.app hs) (by simp;omega)];have A:=λh=>(ov _ b (hO _) k (g++[s]) (hg.app hs) (b.ty (g++[s])).1 (uc h)).2;generalize b.ty (g++[s])=q at A;obtain⟨r,e⟩:=q;simp only[Ip]
   by_cases w:e=0
   ·subst w;have C:r.err=0:=A rfl;have D:=dM hs;have E:=dM C;rw[m9,cF,cB (by decide),cB (by simp),vF 4 (by omega) (by omega)]
    by_cases m:64<1+s.abf+r.abf
    ·rw[cG m,cG m,j5 (by decide)];rfl
    ·rw[cB m,cB m,m9];rfl
   ·rw[j5 w,cF,cG (by simpa[dr] using w),cG w,j5 w];rfl
  ·intro a b j k hn g hg d;rw[Tm.cI] at hn d;simp only[cX] at hn d;refine jK (by decide) (by decide) (by simp) (by intro x f;simp at f;rcases f with rfl|rfl<;>first|exact l _ (by omega) j g hg (by omega)|exact l _ (by omega) k g hg (by omega)) (λts h=>?_);obtain⟨x,y,rfl,f,hy⟩:=two j k hg h;exact NO f hy
  ·intro hn g hg d;exact jK (by decide) (by decide) (by simp) (by simp) (λts h=>by rw[Tm.ra] at h;cases h;exact LW)
  ·intro a j hn g hg d;rw[Tm.cI] at hn d;simp only[cX] at hn d;refine jK (by decide) (by decide) (by simp) (by intro x f;simp at f;subst f;exact l _ (by omega) j g hg (by omega)) (λts h=>?_);obtain⟨x,rfl,f⟩:=one j hg h;exact Mb f
  ·intro s a b c hs j k m hn g hg d;rw[Tm.cI] at hn d;simp only[cX] at hn d;refine jK (by decide) (by decide) (by simp) (by intro x f;simp at f;rcases f with rfl|rfl|rfl<;>first|exact l _ (by omega) j g hg (by omega)|exact l _ (by omega) k g hg (by omega)|exact l _ (by omega) m g hg (by omega)) (λts h=>?_);obtain⟨x,y,z,rfl,f,hy,u⟩:=three j k m hg h;exact Ob hs f hy u
  ·intro hn g hg d;exact jK (by decide) (by decide) (by simp) (by simp) (λts h=>by rw[Tm.ra] at h;cases h;exact O5)
  ·intro a b j k hn g hg d;rw[Tm.cI] at hn d;simp only[cX] at hn d;refine jK (by decide) (by decide) (by simp) (by intro x f;simp at f;rcases f with rfl|rfl<;>first|exact l _ (by omega) j g hg (by omega)|exact l _ (by omega) k g hg (by omega)) (λts h=>?_);obtain⟨x,y,rfl,f,hy⟩:=two j k hg h;exact Mf f hy
  ·intro s a b c hs j k m hn g hg d;rw[Tm.cI] at hn d;simp only[cX] at hn d;refine jK (by decide) (by decide) (by simp) (by intro x f;simp at f;rcases f with rfl|rfl|rfl<;>first|exact l _ (by omega) j g hg (by omega)|exact l _ (by omega) k g hg (by omega)|exact l _ (by omega) m g hg (by omega)) (λts h=>?_);obtain⟨x,y,z,rfl,f,hy,u⟩:=three j k m hg h;exact MH hs f hy u
  ·intro a b j k hn g hg d;rw[Tm.cI] at hn d;simp only[cX] at hn d;refine jK (by decide) (by decide) (by simp) (by intro x f;simp at f;rcases f with rfl|rfl<;>first|exact l _ (by omega) j g hg (by omega)|exact l _ (by omega) k g hg (by omega)) (λts h=>?_);obtain⟨x,y,rfl,f,hy⟩:=two j k hg h;exact MO f hy
  ·intro a j hn g hg d;rw[Tm.cI] at hn d;simp only[cX] at hn d;refine jK (by decide) (by decide) (by simp) (by intro x f;simp at f;subst f;exact l _ (by omega) j g hg (by omega)) (λts h=>?_);obtain⟨x,rfl,f⟩:=one j hg h;exact Oo f
  ·intro a j hn g hg d;rw[Tm.cI] at hn d;simp only[cX] at hn d;refine jK (by decide) (by decide) (by simp) (by intro x f;simp at f;subst f;exact l _ (by omega) j g hg (by omega)) (λts h=>?_);obtain⟨x,rfl,f⟩:=one j hg h;exact Nc f
  ·intro hn g hg d;exact jK (by decide) (by decide) (by simp) (by simp) (λts h=>by rw[Tm.ra] at h;cases h;exact MS)
def um{t:Tm}{g:List Ty}(a:t.ok=true)(hg:iu g)(b:g.length+t.abf<=1000000):du FU (g.map qw) t=some (EI (t.ty g)):=
 AM FU t (by have:=dP;omega) a g hg b
noncomputable def mP (t:Tm) (g:List Ty) (k:Int):Int:=if(t.ty g).2=0/\(t.ty g).1.abd≠k then 7 else(t.ty g).2
def xy{t:Tm}{g:List Ty}(k:Int)(c:t.ok=true)(hg:iu g)(d:g.length+t.abf<=1000000):gn (g.map qw) t k=some (mP t g k):=by
 unfold gn mP;rw[um c hg d];generalize t.ty g=q;obtain⟨r,e⟩:=q
 by_cases a:e=0
 ·subst a;rw[m9,cF];simp only[cT];rw[cG (by rfl),Bk,cz,Bi]
  by_cases b:r.abd=k
  ·rw[sw b,cB (by decide),cB (λh=>h.2 b)]
  ·rw[Ae b,cG (by decide),cG ⟨trivial,b⟩]
 ·rw[j5 a,cF];simp only[cT];rw[cB (by simpa[de] using a),cB (by decide),cB (λh=>a h.1)]
def tK{t:Tm}{g:List Ty}(a:t.ok=true)(hg:iu g)(b:g.length+t.abf<=1000000):fY (g.map qw) t=some (mP t g 1):=by
 unfold fY;rw[xy 1 a hg b];rfl
mutual
noncomputable def Fm.sD:Fm->List Ty->Int
 |.mk k s ts l,g=>if dQ (ts.map λt=>mP t g 1)=0 then Fm.OU l (if i_ k=true then g++[s] else g)else dQ (ts.map λt=>mP t g 1)
noncomputable def Fm.OU:List Fm->List Ty->Int
 |[],_=>0|f::l,g=>if f.sD g=0 then Fm.OU l g else f.sD g
end
def Fm.KU(g:List Ty):∀l:List Fm,Fm.OU l g=dQ (l.map λf=>f.sD g)
 |[]=>by rw[Fm.OU];rfl|f::l=>by rw[Fm.OU,Fm.KU g l];rfl
def Fm.q3(k:Int)(s:Ty)(ts:List Tm)(l:List Fm)(g:List Ty):(Fm.mk k s ts l).sD g=if dQ (ts.map λt=>mP t g 1)=0 then dQ (l.map λf=>f.sD (if i_ k=true then g++[s] else g))else dQ (ts.map λt=>mP t g 1):=by
 rw[Fm.sD,Fm.KU]
def wb{t:Tm}{g:List Ty}(a:t.ok=true)(hn:t.abf<=4096)(hg:iu g)(b:g.length<=900000):ns g t=some (t.ty g):=by
 unfold ns;have hw:=t.hZ a;rw[kz (by omega)]
 have he:t.err=0:=by unfold Tm.err;rw[cG a,cB (by omega)]
 rw[he];simp only[cz];rw[cB (by decide),vU FU t (by have:=dP;omega) a g hg (by omega)];rfl
def FB{t:Tm}{g:List Ty}(f:t.ok=true)(hn:t.abf<=4096)(hg:iu g)(i:g.length<=900000):(cN (ns g t) λd a=>if(dr a 0)=true then(some (.ret a))else(if(dr d.abd 1)=true then(some (.ret 7))else(some (.next ()))):Option (eA Unit Int))=
   if mP t g 1≠0 then some (.ret (mP t g 1))else some (.next ()):=by
 rw[wb f hn hg i];unfold mP;generalize t.ty g=q;obtain⟨r,e⟩:=q;simp only[cF,cR]
 by_cases b:e=0
 ·subst b
  by_cases c:r.abd=1
  ·rw[cB (by simp),cB (by simp[c]),cB (show¬((0:Int)=0/\r.abd≠1)fromλh=>h.2 c),cB (by simp)]
  ·rw[cB (by simp),cG c,cG (show(0:Int)=0/\r.abd≠1 from⟨rfl,c⟩),cG (by decide)]
 ·rw[cG b,cB (show¬(e=0/\r.abd≠1)fromλh=>b h.1),cG b]
def p9{e:Int}:(cA (some e) λa=>if(dr a 0)=true then(some (.ret a))else(some (.next ())):Option (eA Unit Int))=if e≠0 then some (.ret e)else some (.next ()):=by
 rw[cz]
 by_cases h:e=0
 ·subst h;rfl
 ·rw[cG (by simpa[dr] using h),cG h]
def rW{l:List Int}{k:Unit⊕Int->Option Int}(h:k=ez (λ_=>some 0) (λr=>some r)):cA (if dQ l=0 then some (.inl ())else some (.inr (dQ l))) k=some (dQ l):=by
 subst h
 by_cases h:dQ l=0
 ·rw[cG h,h];rfl
 ·rw[cB h];rfl
def vH(f:Fm)(v:f.ok=true):∀n,f.abf<=n->∀g,iu g->g.length+f.abf<=900000->f.abf<=4096->kn n g f=some (f.sD g):=by
 refine Fm.mx (p:=λf=>∀n,f.abf<=n->∀g,iu g->g.length+f.abf<=900000->f.abf<=4096->kn n g f=some (f.sD g)) ?_ ?_ ?_ f v
 ·intro a b l u n hn g hg c d;rw[Fm.cI] at hn c d;simp only[cX] at hn c d;obtain⟨n,rfl⟩:∃m,n=m+1:=⟨n-1,by omega⟩;rw[kn,Fm.q3];simp only[cT,Fm.fv,Fm.cZ,Fm.df,j_,cz]
  rw[cW (by simp),cL,kE (λt=>mP t g 1) [a,b] 0 (λj x e=>by
   simp only[jz,X0,Oz] at e;rcases e with rfl|rfl
   ·exact FB l (by omega) hg (by omega)
   ·exact FB u (by omega) hg (by omega))]
  rw[show i_ 1=false from rfl]
  by_cases h:dQ ([a,b].map λt=>mP t g 1)=0
  ·rw[cG h,cG h];rfl
  ·rw[cB h,cB h];rfl
 ·intro k a b o l u i q n hn g hg c d;rw[Fm.cI] at hn c d;simp only[cX] at hn c d;obtain⟨n,rfl⟩:∃m,n=m+1:=⟨n-1,by omega⟩
  have r:i_ k=false:=by rcases o with rfl|rfl<;>rfl
  rw[kn,Fm.q3];simp only[cT,Fm.fv,Fm.cZ,Fm.df,j_,cz,r,TA,dQ]
  rw[cW (by simp),cL,oA,cz,cQ,cB (by decide),cG trivial,cW (by simp),cL,kE (λf=>f.sD g) [a,b] 0 (λj x e=>by
   simp only[jz,X0,Oz] at e;rcases e with rfl|rfl
   ·rw[i n (by omega) g hg (by omega) (by omega)];exact p9
   ·rw[q n (by omega) g hg (by omega) (by omega)];exact p9)]
  exact rW rfl
 ·intro k s a o hs l i n hn g hg c d;rw[Fm.cI] at hn c d;simp only[cX] at hn c d;obtain⟨n,rfl⟩:∃m,n=m+1:=⟨n-1,by omega⟩
  have r:i_ k=true:=by rcases o with rfl|rfl|rfl|rfl<;>rfl
  rw[kn,Fm.q3];simp only[cT,Fm.fv,Fm.cZ,Fm.df,Fm.dI,j_,cz,r,TA,dQ];rw[cW (by simp),cL,oA,cz,cQ];simp only[if_true]
  rw[dK (by simp;omega),cL,eW,cW (by simp),cL,kE (λf=>f.sD (g++[s])) [a] 0 (λj x e=>by
   simp only[jz,X0,Oz] at e;subst e
   rw[i n (by omega) (g++[s]) (hg.app hs) (by simp;omega) (by omega)];exact p9)]
  exact rW rfl
def pM{g:List Ty}{s:Ty}(hs:s.err=0)(a:g.length<=900000):eG (g.map qw) [s]=some ((g++[s]).map qw):=by
 unfold eG lZ;simp only[cT];rw[cW (by simp),cL,dC,jD hs];simp only[cz];rw[dK (by simp),cL];simp only[cz,dL,oA,cQ,eW,mI];rw[dK (by simp;omega),cL,vR]
def BF{t:Tm}{g:List Ty}(b:t.ok=true)(hn:t.abf<=4096)(hg:iu g)(c:g.length<=900000):(cA (fY (g.map qw) t) λa=>if(dr a 0)=true then(some (.ret a))else(some (.next ())):Option (eA Unit Int))=if mP t g 1≠0 then some (.ret (mP t g 1))else some (.next ()):=by
 rw[tK b hg (by omega)];exact p9
def sV(f:Fm)(A:f.ok=true):∀n,f.abf<=n->∀g,iu g->g.length+f.abf<=900000->f.abf<=4096->ds n (g.map qw) f=some (f.sD g):=by
 refine Fm.mx (p:=λf=>∀n,f.abf<=n->∀g,iu g->g.length+f.abf<=900000->f.abf<=4096->ds n (g.map qw) f=some (f.sD g)) ?_ ?_ ?_ f A
 ·intro a b u y n hn g hg c d;rw[Fm.cI] at hn c d;simp only[cX] at hn c d;obtain⟨n,rfl⟩:∃m,n=m+1:=⟨n-1,by omega⟩;rw[ds,Fm.q3];simp only[cT,Fm.fv,Fm.cZ]
  rw[cB (by simp),cB (by simp),cB (by simp),cW (by simp),cL,kE (λt=>mP t g 1) [a,b] 0 (λj x e=>by
   simp only[jz,X0,Oz] at e;rcases e with rfl|rfl
   ·exact BF u (by omega) hg (by omega)
   ·exact BF y (by omega) hg (by omega))]
  rw[rW rfl]
  by_cases h:dQ ([a,b].map λt=>mP t g 1)=0
  ·rw[cG h,h];rfl
  ·rw[cB h]
 ·intro k a b l u y o v n hn g hg c d;rw[Fm.cI] at hn c d;simp only[cX] at hn c d;obtain⟨n,rfl⟩:∃m,n=m+1:=⟨n-1,by omega⟩
  have w:i_ k=false:=by rcases l with rfl|rfl<;>rfl
  have B:ew (de k 4) true (de k 5)=false:=by rcases l with rfl|rfl<;>rfl
  have k2:ew (de k 6) true (de k 7)=false:=by rcases l with rfl|rfl<;>rfl
  have C:ew (de k 2) true (de k 3)=true:=by rcases l with rfl|rfl<;>rfl
  rw[ds,Fm.q3];simp only[cT,Fm.fv,Fm.cZ,w,TA,dQ];rw[cB (by simp only[Fm.df,B];decide),cB (by simp only[Fm.df,k2];decide),cG (by simp only[Fm.df,C])];simp only[if_true,qJ,lG]
  rw[cW (by simp),cL,kE (λf=>f.sD g) [a,b] 0 (λj x e=>by
   simp only[jz,X0,Oz] at e;rcases e with rfl|rfl
   ·rw[o n (by omega) g hg (by omega) (by omega)];exact p9
   ·rw[v n (by omega) g hg (by omega) (by omega)];exact p9)]
  exact rW rfl
 ·intro k s a l hs u o n hn g hg c d;rw[Fm.cI] at hn c d;simp only[cX] at hn c d;obtain⟨n,rfl⟩:∃m,n=m+1:=⟨n-1,by omega⟩
  have w:i_ k=true:=by rcases l with rfl|rfl|rfl|rfl<;>rfl
  rw[ds,Fm.q3];simp only[cT,Fm.fv,Fm.cZ,Fm.dI,w,TA,dQ,pM hs (show g.length<=900000 by omega),cz,if_true]
  have fin:(fh (dG [a])<|cA (dH (λ(z:Int) (q:Fm)=>(λ(_:Unit)=>
    cA (ds n ((g++[s]).map qw) q) λi=>
    if(dr i 0)=true then(
    some (.ret i))
    else(some (.next ()))):Int->Fm->(Unit)->(Option (eA (Unit) (Int)))) [a] 0 ()) (ez (λ(_:Unit)=>some 0) (λr=>some r)))=some (dQ ([a].map λf=>f.sD (g++[s]))):=by
   rw[cW (by simp),cL,kE (λf=>f.sD (g++[s])) [a] 0 (λj x e=>by
    simp only[jz,X0,Oz] at e;subst e
    rw[o n (by omega) (g++[s]) (hg.app hs) (by simp;omega) (by omega)];exact p9)]
   exact rW rfl
  rcases l with rfl|rfl|rfl|rfl
  ·rw[cG (by simp)];exact fin
  ·rw[cG (by simp)];exact fin
  ·rw[cB (by simp),cG (by simp)];exact fin
  ·rw[cB (by simp),cG (by simp)];exact fin
mutual
def Fm.up(f b:Int):Fm->Fm
 |.mk k s ts l=>.mk k s (ts.map (Tm.up f b)) (Fm.Qp (f+qB k) b l)
def Fm.Qp(f b:Int):List Fm->List Fm
 |[]=>[]|t::l=>t.up f b::Fm.Qp f b l
end
def Fm.KJ(f b:Int)(l:List Fm):Fm.Qp f b l=l.map (Fm.up f b):=by
 induction l with
 |nil=>rfl|cons t l a=>simp[Fm.Qp,a]
def Fm.fX(f b k:Int)(s:Ty)(ts:List Tm)(l:List Fm):(Fm.mk k s ts l).up f b=.mk k s (ts.map (Tm.up f b)) (l.map (Fm.up (f+qB k) b)):=by rw[Fm.up,Fm.KJ]
mutual
def Fm.abj(m:Int):Fm->Bool
 |.mk _ _ ts l=>ts.all (Tm.abj m)&&Fm.uJ m l
def Fm.uJ(m:Int):List Fm->Bool
 |[]=>true|t::l=>t.abj m&&Fm.uJ m l
end
def Fm.Ak(m:Int)(l:List Fm):Fm.uJ m l=l.all (Fm.abj m):=by
 induction l with
 |nil=>rfl|cons t l a=>simp[Fm.uJ,a]
def Fm.ec(m k:Int)(s:Ty)(ts:List Tm)(l:List Fm):(Fm.mk k s ts l).abj m=(ts.all (Tm.abj m)&&l.all (Fm.abj m)):=by rw[Fm.abj,Fm.Ak]
mutual
def Fm.abl(a:Int):Fm->Nat
 |.mk k _ ts l=>cX (Tm.abl a) ts+Fm.u5 (a+qB k) l
def Fm.u5(a:Int):List Fm->Nat
 |[]=>0|t::l=>t.abl a+Fm.u5 a l
end
def Fm.AG(a:Int)(l:List Fm):Fm.u5 a l=cX (Fm.abl a) l:=by
 induction l with
 |nil=>rfl|cons t l b=>simp[Fm.u5,cX,b]
def Fm.eQ(a k:Int)(s:Ty)(ts:List Tm)(l:List Fm):(Fm.mk k s ts l).abl a=cX (Tm.abl a) ts+cX (Fm.abl (a+qB k)) l:=by rw[Fm.abl,Fm.AG]
mutual
def Fm.ia:Int->Fm->Tm->Fm
 |n,.mk k ty ts l,s=>.mk k ty (ts.map λx=>Tm.ia n x s) (Fm.Gy (n+qB k) l s)
def Fm.Gy:Int->List Fm->Tm->List Fm
 |_,[],_=>[]|n,t::l,s=>Fm.ia n t s::Fm.Gy n l s
end
def Fm.Hf(n:Int)(s:Tm)(l:List Fm):Fm.Gy n l s=l.map (λx=>Fm.ia n x s):=by
 induction l with
 |nil=>rfl|cons t l a=>simp[Fm.Gy,a]
def Fm.eZ(n:Int)(s:Tm)(k:Int)(ty:Ty)(ts:List Tm)(l:List Fm):Fm.ia n (Fm.mk k ty ts l) s=.mk k ty (ts.map λx=>Tm.ia n x s) (l.map λx=>Fm.ia (n+qB k) x s):=by rw[Fm.ia,Fm.Hf]
def Fm.gH(t:Fm):∀a,t.abl a<=t.abf:=by
 induction t using Fm.ind with
 |h k s ts l b=>
  intro a;rw[Fm.eQ,Fm.cI];have:=jc (f:=Fm.abl (a+qB k)) (g:=Fm.abf) (l:=l) λx c=>b x c _;have:=jc (f:=Tm.abl a) (g:=Tm.abf) (l:=ts) λx _=>x.gH _;omega
def Fm.mA(t:Fm):∀f b,(t.up f b).abf=t.abf:=by
 induction t using Fm.ind with
 |h k s ts l a=>
  intro f b;rw[Fm.fX,Fm.cI,Fm.cI,pZ,pZ,rI λx c=>a x c _ _,rI λx _=>Tm.mA x f b]
def Fm.BI(t:Fm):∀f b,0<=f->0<=b->(t.up f b).ok=t.ok:=by
 induction t using Fm.ind with
 |h k s ts l c=>
  intro f b d a;have:=xz k;rw[Fm.fX,Fm.fa,Fm.fa,BK,BK,tJ λx e=>c x e (f+qB k) b (by omega) a,tJ λx _=>Tm.BI x f b d a]
def Jb{α:Type}{a b c:α->Nat}{m:Nat}{l:List α}(h:∀x∈l,a x+b x=c x+b x*m):cX a l+cX b l=cX c l+cX b l*m:=by
 induction l with
 |nil=>simp[cX]|cons y l d=>
  have f:=h y (by simp);have g:=d λx e=>h x (by simp[e]);simp only[cX,w9];omega
def Fm.oW(s:Tm)(t:Fm):∀n,t.ok=true->(Fm.ia n t s).abf+t.abl n=t.abf+t.abl n*s.abf:=by
 induction t using Fm.ind with
 |h k ty ts l f=>
  intro n d;rw[Fm.fa] at d;simp only[eJ,jr] at d;rw[Fm.eZ,Fm.eQ,Fm.cI,Fm.cI,pZ,pZ,w9];have g:=Jb (l:=ts) (a:=λx=>(Tm.ia n x s).abf) (b:=Tm.abl n) (c:=Tm.abf) (m:=s.abf) λx e=>Tm.oW s x n (d.1.2 x e);have i:=Jb (l:=l) (a:=λx=>(Fm.ia (n+qB k) x s).abf) (b:=Fm.abl (n+qB k)) (c:=Fm.abf) (m:=s.abf) λx e=>f x e _ (d.2 x e);omega
def yL{t:Tm}(m:Int)(h:t.abf<=1000000000):hW FU t m=some (t.abj m):=rX FU t m (by rw[dP];exact h) h
def DT:∀(n:Nat) (t:Fm) (m:Int),t.abf<=n->t.abf<=1000000000->lY n t m=some (t.abj m):=by
 intro n
 induction n with
 |zero=>intro t m h;have:=t.dg;omega
 |succ n c=>
  intro t m h d;cases t with
  |mk k s ts l=>
   rw[Fm.cI] at h d;have g:=Fm.dT l;have e:=Tm.dT ts
   have f:dH (ρ:=Bool) (λ(_:Int) (x:Tm) (_:Unit)=>cA (hW FU x m) λa=>if a=true then some (eA.next ())else some (eA.ret false)) ts 0 ()=if ts.all (Tm.abj m)=true then some (.inl ())else some (.inr false):=by
    refine oI (Tm.abj m) _ ts 0 ?_;intro j x b;have:=da Tm.abf b;rw[yL m (by omega)];rfl
   have k2:dH (ρ:=Bool) (λ(_:Int) (x:Fm) (_:Unit)=>cA (lY n x m) λa=>if a=true then some (eA.next ())else some (eA.ret false)) l 0 ()=if l.all (Fm.abj m)=true then some (.inl ())else some (.inr false):=by
    refine oI (Fm.abj m) _ l 0 ?_;intro j x b;have:=da Fm.abf b;rw[c x m (by omega) (by omega)];rfl
   rw[lY];simp only[Fm.cZ,Fm.fv,cT,cW (l:=l) (by omega),cW (l:=ts) (by omega),cL,f,k2,Fm.ec];cases i:ts.all (Tm.abj m)<;>cases o:l.all (Fm.abj m)<;>simp
def Bu:∀(n:Nat) (t:Fm) (f b:Int),t.abf<=n->t.abf<=1000000000->0<=f->f+t.abf<=10000000000->0<=b->b<=10000000000->t.abj 1000000000000=true->gN n t f b=some (t.up f b):=by
 intro n
 induction n with
 |zero=>intro t f b h;have:=t.dg;omega
 |succ n o=>
  intro t f b h d p e i a hi;cases t with
  |mk k s ts l=>
   rw[Fm.cI] at h d e;rw[Fm.ec] at hi;simp only[eJ,jr] at hi;have r:=Fm.dT l;have q:=Tm.dT ts;have u:=xz k;rw[gN];simp only[Fm.cZ,Fm.fv,Fm.df,Fm.dI,cT,cW (l:=l) (by omega),cW (l:=ts) (by omega),cL];rw[gZ (Tm.up f b) ts 0 [] (by simp;omega)]
   ·simp only[cz,cQ];rw[gZ (Fm.up (f+qB k) b) l 0 [] (by simp;omega)]
    ·simp[Fm.fX]
    ·intro j x v c g;have:=da Fm.abf c;rw[mZ];simp only[cz,Fm.df];rw[dJ (by omega) (by omega),o x (f+qB k) b (by omega) (by omega) (by omega) (by omega) i a (hi.2 x c)];simp[dK (l:=v) (m:=[x.up (f+qB k) b]) (by simpa using g)]
   ·intro j x v c g;have:=da Tm.abf c;rw[wD FU x f b (by rw[dP];omega) (by omega) p (by omega) i a (hi.1 x c)];simp[dK (l:=v) (m:=[x.up f b]) (by simpa using g)]
def DK:∀(n:Nat) (t:Fm) (a:Int),t.abf<=n->t.abf<=1000000000->0<=a->a+t.abf<=10000000000->l0 n t a=some (t.abl a:Int):=by
 intro n
 induction n with
 |zero=>intro t a h;have:=t.dg;omega
 |succ n g=>
  intro t a h c i d;cases t with
  |mk k s ts l=>
   rw[Fm.cI] at h c d;have q:=Fm.dT l;have m:=Tm.dT ts;have r:=xz k;have o:cX (Fm.abl (a+qB k)) l<=cX Fm.abf l:=jc λx _=>x.gH _;have f:cX (Tm.abl a) ts<=cX Tm.abf ts:=jc λx _=>x.gH _;rw[l0];simp only[Fm.cZ,Fm.fv,Fm.df,cT,cW (l:=l) (by omega),cW (l:=ts) (by omega),cL]
   have p:=nr (ρ:=Int) (F:=λ(_:Int) (x:Tm) (v:Int)=>cA (kj FU x a) λy=>some (eA.next (dB .i64 v y))) (Tm.abl a) ts 0 0 (by omega) (by
    intro j x v e;have:=da Tm.abf e;rw[vq FU x a (by rw[dP];omega) (by omega) i (by omega)]
    rfl)
   have k2:=nr (ρ:=Int) (F:=λ(_:Int) (x:Fm) (v:Int)=>cA (k7 (Fm.mk k s ts l)) λb=>cA (l0 n x (dB .i64 a b)) λy=>some (eA.next (dB .i64 v y))) (Fm.abl (a+qB k)) l 0 (0+cX (Tm.abl a) ts) (by omega) (by
    intro j x v e;have:=da Fm.abf e;rw[mZ];simp only[cz,Fm.df];rw[dJ (by omega) (by omega),g x _ (by omega) (by omega) (by omega) (by omega)]
    rfl)
   rw[show(0:Int)=((0:Nat):Int)from rfl,p];simp only[cz,cQ];rw[k2];simp[Fm.eQ]
def Jl:∀(n:Nat) (t:Fm) (a b:Int) (s:Tm),t.abf<=n->t.abf<=1000000000->0<=a->0<=b->a+b+t.abf<=5000000000->t.abj 1000000000000=true->t.ok=true->s.abf<=1000000000->s.abj 1000000000000=true->rM n t a b s=some (Fm.ia (a+b) t s):=by
 intro n
 induction n with
 |zero=>intro t a b s h;have:=t.dg;omega
 |succ n p=>
  intro t a b s h f o q g hi c hs e;cases t with
  |mk k ty ts l=>
   rw[Fm.cI] at h f g;rw[Fm.ec] at hi;rw[Fm.fa] at c;simp only[eJ,jr] at hi c;have u:=Fm.dT l;have r:=Tm.dT ts;have w:=xz k;rw[rM];simp only[Fm.cZ,Fm.fv,Fm.df,Fm.dI,cT,cW (l:=l) (by omega),cW (l:=ts) (by omega),cL];rw[gZ (λx=>Tm.ia (a+b) x s) ts 0 [] (by simp;omega)]
   ·simp only[cz,cQ];rw[gZ (λx=>Fm.ia (a+b+qB k) x s) l 0 [] (by simp;omega)]
    ·simp[Fm.eZ]
    ·intro j x v d i;have:=da Fm.abf d;rw[mZ];simp only[cz,Fm.df];rw[dJ (by omega) (by omega),p x a (b+qB k) s (by omega) (by omega) o (by omega) (by omega) (hi.2 x d) (c.2 x d) hs e];rw[show a+(b+qB k)=a+b+qB k by omega];simp[dK (l:=v) (m:=[Fm.ia (a+b+qB k) x s]) (by simpa using i)]
   ·intro j x v d i;have:=da Tm.abf d;rw[Bt FU x a b s (by rw[dP];omega) (by omega) o q (by omega) (hi.1 x d) (c.1.2 x d) hs e];simp[dK (l:=v) (m:=[Tm.ia (a+b) x s]) (by simpa using i)]
def Fm.kH(t:Fm):∀{m n:Int},m<=n->t.abj m=true->t.abj n=true:=by
 induction t using Fm.ind with
 |h k s ts l c=>
  intro m n a h;rw[Fm.ec] at*;simp only[eJ,jr] at*;exact⟨λx b=>Tm.kH x a (h.1 x b),λx b=>c x b a (h.2 x b)⟩
def iy.abj{g:List Ty}{f:Fm}(h:iy g f):∀m:Int,((g.length+f.abf:Nat):Int)<=m->f.abj m=true:=by
 induction h with
 |eq c d=>
  intro m hm;simp only[Fm.cI,cX] at hm;simp only[Fm.ec,uw,Qu,xl,eJ];exact⟨c.abj m (by omega),d.abj m (by omega)⟩
 |two _ _ _ a b=>
  intro m hm;simp only[Fm.cI,cX] at hm;simp only[Fm.ec,uw,Qu,xl,eJ,xe];exact⟨a m (by omega),b m (by omega)⟩
 |q _ _ _ e=>
  intro m hm;simp only[Fm.cI,cX] at hm;simp only[Fm.ec,uw,Qu,xl,xe];exact e m (by simp;omega)
def Tm.Fg(φ:Int->Int->Tm)(b:Int):Tm->Tm
 |.mk k i s l=>if k=1 then φ i b else .mk k i s (l.attach.map λx=>Tm.Fg φ (b+d_ k) x.1)
decreasing_by
 have:=XL x.2;simp only[Tm.mk.sizeOf_spec];omega
def Tm.vw(φ:Int->Int->Tm)(b k i:Int)(s:Ty)(l:List Tm):(Tm.mk k i s l).Fg φ b=if k=1 then φ i b else .mk k i s (l.map (Tm.Fg φ (b+d_ k))):=by
 rw[Tm.Fg]
 congr 2
 exact Me
def uh(k b:Int)(a:-1000000000000<=b)(c:b<=1000000000000):ew (de k 2) (dB .i64 b 1) b=b+d_ k:=by
 unfold d_
 by_cases h:k=2
 ·subst h;rw[show de 2 2=true from rfl,cG rfl];exact dJ (by omega) (by omega)
 ·rw[show de k 2=false by simpa[de] using h,cB h];show b=b+0;omega
def sY{h:Int->Int->Option Tm}{φ:Int->Int->Tm}{M:Int}(y:∀i b,0<=i->i<=M->0<=b->b<=10000000000->h i b=some (φ i b)):∀(n:Nat) (t:Tm) (b:Int),t.abf<=n->t.abf<=50000000->t.ok=true->t.abj M=true->0<=b->b+t.abf<=10000000000->fy n t b (λ(s:Unit) (g:Int) (m:Int)=>oy (h g m) s) ()=some (t.Fg φ b,()):=by
 intro n
 induction n with
 |zero=>intro t b h;have:=t.dg;omega
 |succ n z=>
  intro t b hn A o p B q;cases t with
  |mk k i s l=>
   rw[Tm.cI] at hn A q;have hlen:=Tm.dT l;have e:=o;rw[Tm.fa,eJ] at o;have C:=Ty.tc o.1;rw[Tm.ec,eJ,RX,jr] at p;rw[fy,Tm.vw]
   by_cases r:k=1
   ·subst r;have hi:=(Tm.jQ e).2.1;rw[cG (by rfl),cG rfl];simp only[Tm.eE];rw[y i b hi p.1 B (by omega),Bp,cF]
   ·rw[cB (by simpa[de] using r),cB r];simp only[Tm.dI,Tm.cZ,Tm.df,Tm.eE,cT];rw[mK (by omega),cz,cW (by omega),cL,uh k b (by omega) (by omega)];have D:=fV k
    have loop:∀(ts:List Tm) (j:Nat) (v:List Tm),(∀t∈ts,t∈l)->v.length+ts.length<=50000000->dH (λ(E:Int) (w:Tm)=>(p0 λ(a:List Tm) (v107:Unit)=>
       cN (fy n w (b+d_ k) (λ(s:Unit) (g:Int) (m:Int)=>oy (h g m) s) v107) λc f=>
       fh (eC a [c])<|some ((.next ((fp a [c]),f)):eA ((List Tm)×Unit) (Tm×Unit)))) ts j (v,())=some (.inl (v++ts.map (Tm.Fg φ (b+d_ k)),())):=by
     intro ts
     induction ts with
     |nil=>intro j v _ _;simp|cons t ts x=>
      intro j v hm F;simp only[jW] at F;have d:=hm t (by simp);have G:=da Tm.abf d;rw[dC];simp only[p0];rw[z t (b+d_ k) (by omega) (by omega) ((Tm.jQ e).2.2.2.1 t d) (p.2 t d) (by omega) (by omega),cF,dK (by simp;omega),cL];simp only[cz,dL];rw[eW];have:=x (j+1) (v++[t.Fg φ (b+d_ k)]) (λu hu=>hm u (by simp[hu])) (by simp;omega);rw[this];simp
    rw[loop l 0 [] (λt h=>h) (by simp;omega),cz];simp
structure Bd (t:Tm):Prop where
 ok:t.ok=true
 abj:t.abj 1000000000000=true
 abf:t.abf<=50000000
def Tm.Kl(f c:Int)(n:0<=f):∀(t:Tm) (b:Int),0<=b->t.ok=true->t.Fg (λi b=>.mk 1 (if f<=i-b then i+c else i) (.mk 0 []) []) b=t.up (f+b) c:=by
 intro t
 induction t using Tm.ind with
 |h k i s l g=>
  intro b o a;have hi:=Tm.jQ a;rw[Tm.vw,Tm.fX]
  by_cases d:k=1
  ·subst d;rw[cG rfl]
   have j:l=[]:=by
    have:=hi.2.2.2.2;unfold fq at this;rw[cG (.inl rfl)] at this;exact xZ (by omega)
   have hs:s=.mk 0 []:=by
    rw[Tm.fa] at a;simp only[Tm.node,eJ] at a;have:=a.1.2;rw[cB (by decide)] at this;exact(Ty.kv s).1 this
   subst j;subst hs;simp only[TA,Xh]
   congr 1
   by_cases h:f+b<=i
   ·rw[cG h,cG (by omega)]
   ·rw[cB h,cB (by omega)]
  ·rw[cB d,cB (λh=>d h.1)];have m:=fV k
   congr 1
   exact qo λx e=>by rw[g x e (b+d_ k) (by omega) (hi.2.2.2.1 x e),show f+(b+d_ k)=f+b+d_ k by omega]
def yE{t:Tm}{f c:Int}(h:Bd t)(d:0<=f)(e:f<=10000000000)(m:0<=c)(g:c<=10000000000):oV t f c=some (t.up f c):=by
 unfold oV ml;rw[sY (h:=λj k=>qM j k f c) (φ:=λi b=>.mk 1 (if f<=i-b then i+c else i) (.mk 0 []) []) (M:=1000000000000) (λi b n o p q=>?_) FU t 0 (by have:=dP;have:=h.abf;omega) h.abf h.ok h.abj (by omega) (by have:=h.abf;omega)]
 ·rw[cF,cF,Tm.Kl f c d t 0 (by omega) h.ok,show f+0=f by omega]
 ·unfold qM gf;simp only[cz];rw[dW (by omega) (by omega),dJ (by omega) (by omega)]
  by_cases a:f<=i-b
  ·rw[cG a,show qT (i-b) f=true by rw[gP];exact a];rfl
  ·rw[cB a,show qT (i-b) f=false by
    cases l:qT (i-b) f with
    |false=>rfl|true=>exact absurd ((gP _ _).1 l) a];rfl
def l_(k:Int):kW k=some (i_ k):=by
 unfold kW i_;rw[qx];simp only[qT,Gd,u6];rw[<-Bool.decide_and];exact yU.2 (by simp only[RX];omega)
def Fm.oB{k:Int}{s:Ty}{ts:List Tm}{l:List Fm}(h:(Fm.mk k s ts l).ok=true):s.abf<=64/\(∀t∈ts,t.ok=true)/\(∀f∈l,f.ok=true):=by
 rw[Fm.fa] at h;simp only[eJ,jr] at h;refine⟨?_,h.1.2,h.2⟩;have hn:=h.1.1;unfold Fm.node at hn
 split at hn
 ·simp only[eJ] at hn;rw[(Ty.kv s).1 hn.1.1,Ty.cI];simp[cX]
 ·split at hn
  ·simp only[eJ] at hn;rw[(Ty.kv s).1 hn.1.1,Ty.cI];simp[cX]
  ·simp only[eJ,kR] at hn;exact dM hn.1.1.2
def Fm.Fg(ψ:Tm->Int->Tm)(b:Int):Fm->Fm
 |.mk k s ts l=>.mk k s (ts.map λt=>ψ t b) (l.attach.map λx=>Fm.Fg ψ (b+qB k) x.1)
decreasing_by
 have:=XL x.2;simp only[Fm.mk.sizeOf_spec];omega
def Fm.vw(ψ:Tm->Int->Tm)(b k:Int)(s:Ty)(ts:List Tm)(l:List Fm):(Fm.mk k s ts l).Fg ψ b=.mk k s (ts.map λt=>ψ t b) (l.map (Fm.Fg ψ (b+qB k))):=by
 rw[Fm.Fg]
 congr 1
 exact Me
def me{h:Tm->Int->Option Tm}{ψ:Tm->Int->Tm}(J:∀t b,Bd t->0<=b->b<=1000000000->h t b=some (ψ t b)):∀(n:Nat) (f:Fm) (b:Int),f.abf<=n->f.abf<=50000000->f.ok=true->f.abj 1000000000000=true->0<=b->b+f.abf<=1000000000->dE n f b (λ(s:Unit) (q:Tm) (w:Int)=>oy (h q w) s) ()=some (f.Fg ψ b,()):=by
 intro n
 induction n with
 |zero=>intro f b h;have:=f.dg;omega
 |succ n K=>
  intro f b hn L M A N B;cases f with
  |mk k s ts l=>
   rw[Fm.cI] at hn L B;have O:=fO Tm.abf ts λt _=>t.dg;have P:=fO Fm.abf l λt _=>t.dg;obtain⟨Q,C,D⟩:=Fm.oB M;rw[Fm.ec,eJ,jr,jr] at A;rw[dE,Fm.vw];simp only[Fm.dI,Fm.cZ,Fm.df,Fm.fv,cT];rw[mK (by omega),cz,cW (by omega),cL];have R:=xz k
   have m:∀(us:List Tm) (j:Nat) (v:List Tm),(∀t∈us,t∈ts)->v.length+us.length<=50000000->dH (λ(S:Int) (E:Tm)=>(p0 λ(v91:List Tm) (F:Unit)=>
      cN (oy (h E b) F) λi x=>
      fh (eC v91 [i])<|some ((.next ((fp v91 [i]),x)):eA ((List Tm)×Unit) (Fm×Unit)))) us j (v,())=some (.inl (v++us.map (λt=>ψ t b),())):=by
    intro us
    induction us with
    |nil=>intro j v _ _;simp|cons t us o=>
     intro j v hm G;simp only[jW] at G;have d:=hm t (by simp);have H:=da Tm.abf d;rw[dC];simp only[p0];rw[J t b ⟨C t d,A.1 t d,by omega⟩ N (by omega),Bp,cF,dK (by simp;omega),cL];simp only[cz,dL];rw[eW];have:=o (j+1) (v++[ψ t b]) (λu hu=>hm u (by simp[hu])) (by simp;omega);rw[this];simp
   rw[m ts 0 [] (λt h=>h) (by simp;omega),cz];simp only[cQ,p0];rw[l_,cz]
   have p:∀(us:List Fm) (j:Nat) (v:List Fm),(∀t∈us,t∈l)->v.length+us.length<=50000000->dH (λ(y:Int) (e:Fm)=>(p0 λ(a:List Fm) (v212:Unit)=>
      cN (dE n e (b+qB k) (λ(s:Unit) (q:Tm) (w:Int)=>oy (h q w) s) v212) λc g=>
      fh (eC a [c])<|some ((.next ((fp a [c]),g)):eA ((List Fm)×Unit) (Fm×Unit)))) us j (v,())=some (.inl (v++us.map (Fm.Fg ψ (b+qB k)),())):=by
    intro us
    induction us with
    |nil=>intro j v _ _;simp|cons t us o=>
     intro j v hm G;simp only[jW] at G;have d:=hm t (by simp);have H:=da Fm.abf d;rw[dC];simp only[p0];rw[K t (b+qB k) (by omega) (by omega) (D t d) (A.2 t d) (by omega) (by omega),cF,dK (by simp;omega),cL];simp only[cz,dL];rw[eW];have:=o (j+1) (v++[t.Fg ψ (b+qB k)]) (λu hu=>hm u (by simp[hu])) (by simp;omega);rw[this];simp
   have fin:(fh (dG l)<|cA (dH (λ(y:Int) (e:Fm)=>(p0 λ(a:List Fm) (v212:Unit)=>
      cN (dE n e (b+qB k) (λ(s:Unit) (q:Tm) (w:Int)=>oy (h q w) s) v212) λc g=>
      fh (eC a [c])<|some ((.next ((fp a [c]),g)):eA ((List Fm)×Unit) (Fm×Unit)))) l 0 ([],())) (ez (p0 λ(a:List Fm) (v212:Unit)=>some ((Fm.mk k s ([]++ts.map λt=>ψ t b) a),v212)) (λr=>some r)))=some (Fm.mk k s (ts.map λt=>ψ t b) (l.map (Fm.Fg ψ (b+qB k))),()):=by
    rw[cW (by omega),cL,p l 0 [] (λt h=>h) (by simp;omega),cz];simp
   by_cases z:i_ k=true
   ·rw[cG z]
    have I:b+qB k=b+1:=by unfold qB;rw[cG z]
    rw[I] at fin|-;rw[dJ (by omega) (by omega)];exact fin
   ·rw[cB z]
    have I:b+qB k=b:=by unfold qB;rw[cB z];omega
    rw[I] at fin|-;exact fin
def Fm.Kl(f c:Int):∀(g:Fm) (b:Int),g.Fg (λt b=>t.up (f+b) c) b=g.up (f+b) c:=by
 intro g
 induction g using Fm.ind with
 |h k s ts l a=>
  intro b;rw[Fm.vw,Fm.fX]
  congr 1
  exact qo λx d=>by rw[a x d (b+qB k),show f+(b+qB k)=f+b+qB k by omega]
def q7{g:Fm}{f c:Int}(d:g.ok=true)(hn:g.abf<=50000000)(e:g.abj 1000000000000=true)(m:0<=f)(i:f<=1000000000)(j:0<=c)(a:c<=10000000000):dY g f c=some (g.up f c):=by
 unfold dY;rw[me (h:=λk l=>kD k l f c) (ψ:=λt b=>t.up (f+b) c) (λt b h n o=>?_) FU g 0 (by have:=dP;omega) hn d e (by omega) (by omega)]
 ·rw[cF,Fm.Kl f c g 0,show f+0=f by omega]
 ·unfold kD;rw[dJ (by omega) (by omega),yE h (by omega) (by omega) j a];rfl
def Tm.Jo{i:Int}{s:Ty}{l:List Tm}(a:(Tm.mk 1 i s l).ok=true):l=[]/\s=.mk 0 []:=by
 have hi:=Tm.jQ a;constructor
 ·have:=hi.2.2.2.2;unfold fq at this;rw[cG (.inl rfl)] at this;exact xZ (by omega)
 ·rw[Tm.fa] at a;simp only[Tm.node,eJ] at a;have:=a.1.2;rw[cB (by decide)] at this;exact(Ty.kv s).1 this
def Jq(a:Int)(s:Tm)(i b:Int):Tm:=if i-b=a then s.up 0 (a+b)else if a<i-b then .mk 1 (i-1) (.mk 0 []) [] else .mk 1 i (.mk 0 []) []
def Tm.GD(a:Int)(s:Tm):∀(t:Tm) (b:Int),t.ok=true->t.Fg (Jq a s) b=Tm.ia (a+b) t s:=by
 intro t
 induction t using Tm.ind with
 |h k i ty l j=>
  intro b d;have hi:=Tm.jQ d;rw[Tm.vw,Tm.eZ]
  by_cases c:k=1
  ·subst c;obtain⟨rfl,rfl⟩:=Tm.Jo d;rw[cG rfl,cG rfl];unfold Jq Tm.jI
   by_cases e:i-b=a
   ·rw[cG e,cG (by omega)]
   ·rw[cB e,cB (show¬i=a+b by omega)]
    by_cases f:a<i-b
    ·rw[cG f,cG (by omega)]
    ·rw[cB f,cB (by omega)]
  ·rw[cB c,cB c]
   congr 1
   exact qo λx g=>by rw[j x g (b+d_ k) (hi.2.2.2.1 x g),show a+(b+d_ k)=a+b+d_ k by omega]
def DQ(s:Tm):Prop:=∀c,0<=c->c<=10000000000->oV s 0 c=some (s.up 0 c)
def Bd.lift{s:Tm}(h:Bd s):DQ s:=λc a b=>yE h (by omega) (by omega) a b
def I8{t s:Tm}{a:Int}(h:Bd t)(hs:DQ s)(K:0<=a)(D:a<=1000000000):wh t a s=some (Tm.ia a t s):=by
 unfold wh ml;have hn:=h.abf
 have key:∀(n:Nat) (t:Tm) (b:Int),t.abf<=n->t.abf<=50000000->t.ok=true->t.abj 1000000000000=true->0<=b->b+t.abf<=1000000000->fy n t b (λ(f:Unit) (m:Int) (g:Int)=>oy (mu m g a s) f) ()=fy n t b (λ(f:Unit) (m:Int) (g:Int)=>oy (if g<=1000000000 then mu m g a s else some (Jq a s m g)) f) ():=by
  intro n
  induction n with
  |zero=>intro t b h;have:=t.dg;omega
  |succ n E=>
   intro t b hn r F C G y;cases t with
   |mk k i ty l=>
    rw[Tm.cI] at hn r y;rw[Tm.ec,eJ,RX,jr] at C;have hi:=Tm.jQ F;have H:=fV k;rw[fy,fy]
    by_cases z:k=1
    ·subst z;rw[cG (by rfl),cG (by rfl),cG (by omega)]
    ·rw[cB (by simpa[de] using z),cB (by simpa[de] using z)];simp only[Tm.dI,Tm.cZ,Tm.df,Tm.eE,cT];rw[uh k b (by omega) (by omega)]
     have loop:∀(ts:List Tm) (j:Nat) (v:List Tm),(∀t∈ts,t∈l)->dH (λ(A:Int) (p:Tm)=>(p0 λ(d:List Tm) (v107:Unit)=>
        cN (fy n p (b+d_ k) (λ(f:Unit) (m:Int) (g:Int)=>oy (mu m g a s) f) v107) λe o=>
        fh (eC d [e])<|some ((.next ((fp d [e]),o)):eA ((List Tm)×Unit) (Tm×Unit)))) ts j (v,())=dH (λ(A:Int) (p:Tm)=>(p0 λ(d:List Tm) (v107:Unit)=>
        cN (fy n p (b+d_ k) (λ(f:Unit) (m:Int) (g:Int)=>oy (if g<=1000000000 then mu m g a s else some (Jq a s m g)) f) v107) λe o=>
        fh (eC d [e])<|some ((.next ((fp d [e]),o)):eA ((List Tm)×Unit) (Tm×Unit)))) ts j (v,()):=by
      intro ts
      induction ts with
      |nil=>intro j v _;rfl|cons t ts B=>
       intro j v hm;have q:=hm t (by simp);have I:=da Tm.abf q;rw[dC,dC];simp only[p0];rw[E t (b+d_ k) (by omega) (by omega) (hi.2.2.2.1 t q) (C.2 t q) (by omega) (by omega)]
       congr 1
       funext c
       cases c with
       |next st=>
        obtain⟨J,u⟩:=st;exact B (j+1) J (λu hu=>hm u (by simp[hu]))
       |_=>rfl
     rw[loop l 0 [] (λt h=>h)]
 rw[key FU t 0 (by have:=dP;omega) hn h.ok h.abj (by omega) (by omega)];rw[sY (h:=λm g=>if g<=1000000000 then mu m g a s else some (Jq a s m g)) (φ:=Jq a s) (M:=1000000000000) (λi b G L N O=>?_) FU t 0 (by have:=dP;omega) h.abf h.ok h.abj (by omega) (by omega)]
 ·rw[cF,cF,Tm.GD a s t 0 h.ok,show a+0=a by omega]
 ·by_cases r:b<=1000000000
  ·rw[cG r];unfold mu gf Jq;rw[dW (by omega) (by omega),dJ (by omega) (by omega)]
   by_cases w:i-b=a
   ·rw[cG (by simpa[de] using w),cG w,hs _ (by omega) (by omega)];rfl
   ·rw[cB (by simpa[de] using w),cB w]
    by_cases x:a<i-b
    ·rw[cG (by rw[eO];exact x),cG x,dW (by omega) (by omega)];rfl
    ·rw[cB (by rw[eO];exact x),cB x];rfl
  ·rw[cB r]
def Fm.GD(a:Int)(s:Tm):∀(g:Fm) (b:Int),g.Fg (λt b=>Tm.ia (a+b) t s) b=Fm.ia (a+b) g s:=by
 intro g
 induction g using Fm.ind with
 |h k ty ts l c=>
  intro b;rw[Fm.vw,Fm.eZ]
  congr 1
  exact qo λx d=>by rw[c x d (b+qB k),show a+(b+qB k)=a+b+qB k by omega]
def r7{g:Fm}{s:Tm}{a:Int}(B:g.ok=true)(hn:g.abf<=50000000)(I:g.abj 1000000000000=true)(hs:DQ s)(P:0<=a)(J:a<=100000000):jn g a s=some (Fm.ia a g s):=by
 unfold jn
 have key:∀(n:Nat) (f:Fm) (b:Int),f.abf<=n->f.abf<=50000000->f.ok=true->0<=b->b+f.abf<=100000000->dE n f b (λ(i:Unit) (p:Tm) (m:Int)=>oy (gM p m a s) i) ()=dE n f b (λ(i:Unit) (p:Tm) (m:Int)=>oy (if m<=100000000 then gM p m a s else some (Tm.ia (a+m) p s)) i) ():=by
  intro n
  induction n with
  |zero=>intro f b h;have:=f.dg;omega
  |succ n K=>
   intro f b hn C B L E;cases f with
   |mk k ty ts l=>
    rw[Fm.cI] at hn C E;obtain⟨_,_,F⟩:=Fm.oB B;have M:=xz k;rw[dE,dE];simp only[Fm.dI,Fm.cZ,Fm.df,Fm.fv,cT,cG (show b<=100000000 by omega),l_,cz]
    have loop:∀(us:List Fm) (j:Nat) (v:List Fm) (x:Int),0<=x->x+cX Fm.abf l<=100000000->(∀t∈us,t∈l)->dH (λ(y:Int) (q:Fm)=>(p0 λ(d:List Fm) (v212:Unit)=>
       cN (dE n q x (λ(i:Unit) (p:Tm) (m:Int)=>oy (gM p m a s) i) v212) λe w=>
       fh (eC d [e])<|some ((.next ((fp d [e]),w)):eA ((List Fm)×Unit) (Fm×Unit)))) us j (v,())=dH (λ(y:Int) (q:Fm)=>(p0 λ(d:List Fm) (v212:Unit)=>
       cN (dE n q x (λ(i:Unit) (p:Tm) (m:Int)=>oy (if m<=100000000 then gM p m a s else some (Tm.ia (a+m) p s)) i) v212) λe w=>
       fh (eC d [e])<|some ((.next ((fp d [e]),w)):eA ((List Fm)×Unit) (Fm×Unit)))) us j (v,()):=by
     intro us
     induction us with
     |nil=>intro j v x _ _ _;rfl|cons t us G=>
      intro j v x z H hm;have A:=hm t (by simp);have N:=da Fm.abf A;rw[dC,dC];simp only[p0];rw[K t x (by omega) (by omega) (F t A) z (by omega)]
      congr 1
      funext c
      cases c with
      |next st=>
       obtain⟨O,u⟩:=st;exact G (j+1) O x z H (λu hu=>hm u (by simp[hu]))
      |_=>rfl
    congr 1
    funext Q
    congr 1
    congr 1
    funext o
    cases o with
    |inr r=>rfl|inl st=>
     obtain⟨v,u⟩:=st;simp only[cQ,p0]
     by_cases D:i_ k=true
     ·rw[cG D,cG D,dJ (by omega) (by omega)];rw[show(([]:List Fm),u)=([],())from rfl,loop l 0 [] (b+1) (by omega) (by omega) (λt h=>h)]
     ·rw[cB D,cB D];rw[show(([]:List Fm),u)=([],())from rfl,loop l 0 [] b (by omega) (by omega) (λt h=>h)]
 rw[key FU g 0 (by have:=dP;omega) hn B (by omega) (by omega)];rw[me (h:=λp m=>if m<=100000000 then gM p m a s else some (Tm.ia (a+m) p s)) (ψ:=λt b=>Tm.ia (a+b) t s) (λt b h L R=>?_) FU g 0 (by have:=dP;omega) hn B I (by omega) (by omega)]
 ·rw[cF,Fm.GD a s g 0,show a+0=a by omega]
 ·by_cases C:b<=100000000
  ·rw[cG C];unfold gM;rw[dJ (by omega) (by omega),I8 h hs (by omega) (by omega)];rfl
  ·rw[cB C]
def B3{a i b c:Int}(d:-1000000000000000<=i)(e:i<=1000000000000000)(f:0<=b)(g:b<=10000000000)(j:0<=c)(k:c<=10000000000):mq i b a c=some (c+if i-b=a then 1 else 0):=by
 unfold mq;rw[dW (by omega) (by omega)]
 by_cases h:i-b=a
 ·rw[cG (by simpa[de] using h),cG h,dJ (by omega) (by omega)]
 ·rw[cB (by simpa[de] using h),cB h,vk]
def BQ(a:Int):∀(n:Nat) (t:Tm) (b c:Int),t.abf<=n->t.abf<=50000000->t.ok=true->t.abj 1000000000000=true->0<=b->b+t.abf<=1000000000->0<=c->c+t.abf<=1000000000->hU n t b (λ(s:Int) (f:Int) (g:Int)=>mq f g a s) c=some (c+(t.abl (a+b):Int)):=by
 intro n
 induction n with
 |zero=>intro t b c h;have:=t.dg;omega
 |succ n y=>
  intro t b c hn z A w B m x C;cases t with
  |mk k i s l=>
   rw[Tm.cI] at hn z m C;have hlen:=Tm.dT l;have hi:=Tm.jQ A;rw[Tm.ec,eJ,RX,jr] at w;have D:=fV k;rw[hU,Tm.eQ];simp only[cT]
   have loop:∀(ts:List Tm) (j:Nat) (v:Int),(∀t∈ts,t∈l)->0<=v->v+cX Tm.abf ts<=1000000000->dH (λ(E:Int) (o:Tm)=>(λ(v28:Int)=>
      cA (hU n o (b+d_ k) (λ(s:Int) (f:Int) (g:Int)=>mq f g a s) v28) λp=>
      some ((.next p):eA Int Int))) ts j v=some (.inl (v+(cX (Tm.abl (a+b+d_ k)) ts:Int))):=by
    intro ts
    induction ts with
    |nil=>intro j v _ _ _;simp[cX]|cons t ts q=>
     intro j v hm v0 v1;simp only[cX] at v1|-;have d:=hm t (by simp);have F:=da Tm.abf d;have G:=t.gH (a+b+d_ k);rw[dC,y t (b+d_ k) v (by omega) (by omega) (hi.2.2.2.1 t d) (w.2 t d) (by omega) (by omega) v0 (by omega),show a+(b+d_ k)=a+b+d_ k by omega];simp only[cz,dL];rw[q (j+1) _ (λu hu=>hm u (by simp[hu])) (by omega) (by omega)]
     congr 2
     push_cast
     omega
   by_cases r:k=1
   ·subst r;rw[cG (show de (Tm.mk 1 i s l).abd 1=true from rfl)];simp only[Tm.cZ,Tm.df,Tm.eE];rw[B3 (by omega) (by omega) B (by omega) x (by omega),cz,uh 1 b (by omega) (by omega),cW (by omega),cL];rw[loop l 0 _ (λt h=>h) (by split<;>omega) (by split<;>omega)];simp only[cz,cQ]
    congr 1
    by_cases e:i-b=a
    ·rw[cG e,cG (show True/\i=a+b from⟨trivial,by omega⟩)];omega
    ·rw[cB e,cB (show¬(True/\i=a+b)fromλh=>e (by omega))];omega
   ·rw[cB (show¬de (Tm.mk k i s l).abd 1=true by simpa[de] using r),cB (show¬(k=1/\i=a+b)fromλh=>r h.1)];simp only[Tm.cZ,Tm.df,Tm.eE];rw[uh k b (by omega) (by omega),cW (by omega),cL];rw[loop l 0 c (λt h=>h) x (by omega)];simp only[cz,cQ]
    congr 1
    push_cast
    omega
def xr{t:Tm}(a:Int)(h:Bd t):qg t a=some (t.abl a:Int):=by
 unfold qg pj;have hn:=h.abf;rw[BQ a FU t 0 0 (by have:=dP;omega) hn h.ok h.abj (by omega) (by omega) (by omega) (by omega)];simp only[cz];rw[show a+0=a by omega,Xd]
def xg{a:Int}(U:0<=a)(H:a<=100000000):∀(n:Nat) (f:Fm) (b c:Int),f.abf<=n->f.abf<=50000000->f.ok=true->f.abj 1000000000000=true->0<=b->b+f.abf<=100000000->0<=c->c+f.abf<=1000000000->ki n f b (λ(s:Int) (p:Tm) (q:Int)=>hQ p q s a) c=some (c+(f.abl (a+b):Int)):=by
 intro n
 induction n with
 |zero=>intro f b c h;have:=f.dg;omega
 |succ n I=>
  intro f b c hn J K r V w L M;cases f with
  |mk k s ts l=>
   rw[Fm.cI] at hn J w M;have N:=fO Tm.abf ts λt _=>t.dg;have O:=fO Fm.abf l λt _=>t.dg;obtain⟨_,y,z⟩:=Fm.oB K;rw[Fm.ec,eJ,jr,jr] at r;have P:=xz k;rw[ki,Fm.eQ];simp only[Fm.cZ,Fm.df,Fm.fv,cT];rw[cW (by omega),cL]
   have i:∀(us:List Tm) (j:Nat) (v:Int),(∀t∈us,t∈ts)->0<=v->v+cX Tm.abf us<=1000000000->dH (λ(Q:Int) (A:Tm)=>(λ(B:Int)=>
      cA (hQ A b B a) λC=>
      some ((.next C):eA Int Int))) us j v=some (.inl (v+(cX (Tm.abl (a+b)) us:Int))):=by
    intro us
    induction us with
    |nil=>intro j v _ _ _;simp[cX]|cons t us e=>
     intro j v hm v0 v1;simp only[cX] at v1|-;have d:=hm t (by simp);have D:=da Tm.abf d;have R:=t.gH (a+b);rw[dC];unfold hQ at e|-;rw[dJ (a:=a) (by omega) (by omega),xr (a+b) ⟨y t d,r.1 t d,by omega⟩];simp only[cz,dL];rw[dJ (by omega) (by omega)];have:=e (j+1) (v+(t.abl (a+b):Int)) (λu hu=>hm u (by simp[hu])) (by omega) (by omega);rw[dJ (a:=a) (by omega) (by omega)] at this;rw[this]
     congr 2
     push_cast
     omega
   rw[i ts 0 c (λt h=>h) L (by omega)];have S:=jc (f:=Tm.abl (a+b)) (g:=Tm.abf) (l:=ts) λx _=>x.gH _;simp only[cz,cQ];rw[l_,cz]
   have m:∀(us:List Fm) (j:Nat) (v:Int),(∀t∈us,t∈l)->0<=v->v+cX Fm.abf us<=1000000000->dH (λ(T:Int) (E:Fm)=>(λ(v72:Int)=>
      cA (ki n E (b+qB k) (λ(s:Int) (p:Tm) (q:Int)=>hQ p q s a) v72) λF=>
      some ((.next F):eA Int Int))) us j v=some (.inl (v+(cX (Fm.abl (a+b+qB k)) us:Int))):=by
    intro us
    induction us with
    |nil=>intro j v _ _ _;simp[cX]|cons t us e=>
     intro j v hm v0 v1;simp only[cX] at v1|-;have d:=hm t (by simp);have D:=da Fm.abf d;have R:=t.gH (a+b+qB k);rw[dC,I t (b+qB k) v (by omega) (by omega) (z t d) (r.2 t d) (by omega) (by omega) v0 (by omega),show a+(b+qB k)=a+b+qB k by omega];simp only[cz,dL];rw[e (j+1) _ (λu hu=>hm u (by simp[hu])) (by omega) (by omega)]
     congr 2
     push_cast
     omega
   have fin:=m l 0 (c+(cX (Tm.abl (a+b)) ts:Int)) (λt h=>h) (by omega) (by omega)
   by_cases o:i_ k=true
   ·rw[cG o]
    have G:qB k=1:=by unfold qB;rw[cG o]
    rw[G] at fin|-;rw[dJ (by omega) (by omega),cW (by omega),cL,fin];simp only[cz,cQ]
    congr 1
    push_cast
    omega
   ·rw[cB o]
    have G:qB k=0:=by unfold qB;rw[cB o]
    rw[G] at fin|-;rw[vk b] at fin;rw[cW (by omega),cL,fin];simp only[cz,cQ]
    congr 1
    push_cast
    omega
def mY{f:Fm}{a:Int}(c:f.ok=true)(hn:f.abf<=50000000)(d:f.abj 1000000000000=true)(e:0<=a)(b:a<=100000000):iV f a=some (f.abl a:Int):=by
 unfold iV;rw[xg e b FU f 0 0 (by have:=dP;omega) hn c d (by omega) (by omega) (by omega) (by omega)];simp only[cz];rw[show a+0=a by omega,Xd]
noncomputable def kO (f:Fm) (t:Tm):Fm×Int:=if 4096<(Fm.ia 0 f t).abf then(.mk 0 (.mk 0 []) [] [],4)else(Fm.ia 0 f t,0)
noncomputable def zQ (f:Fm) (g:List Ty):Int:=if tz g≠0 then tz g else if f.err≠0 then f.err else f.sD g
def iu.of{g:List Ty}(h:tz g=0):iu g/\g.length<=16:=by
 unfold tz at h
 split at h
 ·cases h
 ·rename_i d;refine⟨λs hs=>?_,by omega⟩
  have key:∀l:List Ty,dQ (l.map Ty.err)=0->∀s∈l,s.err=0:=by
   intro l
   induction l with
   |nil=>intro _ s hs;cases hs
   |cons a l c=>
    intro h s hs;simp only[mi,dQ] at h
    by_cases b:a.err=0
    ·rw[cG b] at h;rcases jz.1 hs with rfl|hs
     ·exact b
     ·exact c h s hs
    ·rw[cB b] at h;exact absurd h b
  exact key g h s hs
def rV{g:List Ty}(hg:iu g)(c:g.length<=1000000):lZ g=some (g.map qw):=by
 unfold lZ;simp only[cT]
 rw[cW (by omega),cL,gZ qw g 0 [] (by simp;omega) (λj x v a b=>by
  rw[jD (hg x a),cz,dK (by simpa using b),cL,eW])]
 simp
def qh{f:Fm}{g:List Ty}(hw:f.wt<=1000000000)(c:g.length<=1000000)(h:∀t∈g,t.abf<=1000000000):km g f=some (zQ f g):=by
 unfold km zQ;rw[tY g c h,cz]
 by_cases a:tz g=0
 ·rw[cB (by rw[cR];simpa using a),cB (by simpa using a),jy hw,cz]
  by_cases he:f.err=0
  ·obtain⟨hg,d⟩:=iu.of a;obtain⟨b,hn⟩:=Fm.fj he;rw[cB (by rw[cR];simpa using he),cB (by simpa using he),rV hg c,cz,sV f b FU (by have:=dP;omega) g hg (by omega) hn];rfl
  ·rw[cG (by rw[cR];exact he),cG he]
 ·rw[cG (by rw[cR];exact a),cG a]
def pC{f:Fm}{g:List Ty}(hw:f.wt<=1000000000)(c:g.length<=1000000)(h:∀t∈g,t.abf<=1000000000):hY g f=some (zQ f g):=by
 unfold hY jo zQ;rw[ql g c h,cz]
 by_cases a:tz g=0
 ·rw[cB (by rw[cR];simpa using a),cB (by simpa using a),kx hw,cz]
  by_cases he:f.err=0
  ·obtain⟨hg,d⟩:=iu.of a;obtain⟨b,hn⟩:=Fm.fj he;rw[cB (by rw[cR];simpa using he),cB (by simpa using he),vH f b FU (by have:=dP;omega) g hg (by omega) hn];rfl
  ·rw[cG (by rw[cR];exact he),cG he];rfl
 ·rw[cG (by rw[cR];exact a),cG a]
def E2{f:Fm}{t:Tm}(he:f.err=0)(b:t.err=0)(g:f.abj 1000000000000=true)(d:t.abj 1000000000000=true):gJ f t=some (kO f t):=by
 obtain⟨a,hn⟩:=Fm.fj he;obtain⟨c,e⟩:=Tm.fj b;have hw:=f.hZ a;have j:=t.hZ c;have n:=t.dg;have k:=f.gH 0;have l:=Fm.oW t f 0 a;unfold gJ kO;rw[m6 (by omega),cF,pA (by omega),cF,mY a (by omega) g (by omega) (by omega),cz,cG he,cG b];rw[dW (by omega) (by omega)]
 have hmul:(f.abl 0:Int)*((t.abf:Int)-1)=((f.abl 0*t.abf:Nat):Int)-(f.abl 0:Int):=by rw[QH,EH];push_cast;rfl
 have m:f.abl 0*t.abf<=4096*4096:=W9 (by omega) e;have h:f.abl 0<=f.abl 0*t.abf:=Qo _ (by omega);rw[wM (by rw[hmul];omega) (by rw[hmul];omega),hmul,dJ (by omega) (by omega)]
 by_cases i:4096<(Fm.ia 0 f t).abf
 ·rw[cG (by rw[eO];omega),cG i]
 ·rw[cB (by rw[eO];omega),cB i,r7 a (by omega) g (Bd.lift ⟨c,d,by omega⟩) (by omega) (by omega)];rfl
def vz{f:Fm}{s:Tm}(he:f.err=0)(b:s.err=0)(h:f.abj 536870912=true)(c:s.abj 536870912=true)(d:(Fm.ia 0 f s).ok=true):qs f 0 s=some (kO f s):=by
 obtain⟨a,hn⟩:=Fm.fj he;obtain⟨e,g⟩:=Tm.fj b;have hw:=f.hZ a;have k:=s.hZ e;have l:=s.dg;have m:=f.gH 0;have n:=Fm.oW s f 0 a;unfold qs kO;rw[kx (by omega),he];simp only[cz,cR,ne_eq,X9,lG,cT,lL,eO,jN,ni];rw[cB (by omega),kz (by omega),b,DT FU f _ (by rw[dP];omega) (by omega),h,yL _ (by omega),c];simp only[cz,X9,lG,if_true,MX,qJ];rw[pF FU f (by rw[dP];omega) (by omega),DK FU f 0 (by rw[dP];omega) (by omega) (by omega) (by omega),lR FU s (by rw[dP];omega) (by omega)];simp only[cz];rw[dW (by omega) (by omega)]
 have hmul:(f.abl 0:Int)*((s.abf:Int)-1)=((f.abl 0*s.abf:Nat):Int)-(f.abl 0:Int):=by rw[QH,EH];push_cast;rfl
 have o:f.abl 0*s.abf<=4096*4096:=W9 (by omega) g;have i:f.abl 0<=f.abl 0*s.abf:=Qo _ (by omega);rw[wM (by rw[hmul];omega) (by rw[hmul];omega),hmul,dJ (by omega) (by omega)]
 by_cases j:4096<(Fm.ia 0 f s).abf
 ·rw[cG (by omega),cG j]
 ·rw[cB (by omega),cB j,Jl FU f 0 0 s (by rw[dP];omega) (by omega) (by omega) (by omega) (by omega) (Fm.kH f (by omega) h) a (by omega) (Tm.kH s (by omega) c)];simp only[cz,vk];have p:=Fm.hZ _ d;rw[nA (by omega)];rfl
def wZ{α:Type}{E:α->α->Option Bool}{m l:List α}(hlen:l.length=m.length)(h:∀x∈l,∀y,∃r,E x y=some r/\(r=true↔x=y)):∃o:Unit⊕Bool,dH (λ(j:Int) (x:α) (_:Unit)=>cA (c_ m j) λy=>cA (E x y) λz=>if z=true then(some (eA.next ()):Option (eA Unit Bool))else some (eA.ret false)) l 0 ()=some o/\(o=.inl ()/\l=m\/o=.inr false/\l≠m):=by
 let p:α->α->Bool:=λx y=>(E x y).getD false
 have c:∀x∈l,∀y,E x y=some (p x y)/\(p x y=true↔x=y):=by
  intro x a y;obtain⟨r,d,b⟩:=h x a y
  have e:p x y=r:=by show(E x y).getD false=r;rw[d];rfl
  rw[e];exact⟨d,b⟩
 have key:=tT (F:=λ(j:Int) (x:α) (_:Unit)=>cA (c_ m j) λy=>cA (E x y) λz=>if z=true then some (eA.next ())else some (eA.ret false)) p m l 0 m rfl hlen (by
  intro k x y a hy;rw[hB,hy];simp only[cz];rw[(c x a y).1]
  rfl)
 have he:=tU p l m λx a y=>(c x a y).2;rw[key];cases b:sb p l m with
 |false=>rw[b] at he;exact⟨_,rfl,.inr ⟨rfl,λe=>absurd (he.2 e) (by simp)⟩⟩
 |true=>rw[b] at he;exact⟨_,rfl,.inl ⟨rfl,he.1 rfl⟩⟩
def xc:∀(n:Nat) (a b:Fm),a.wt<=n->a.wt<=1000000000->∃r,iM n a b=some r/\(r=true↔a=b):=by
 intro n
 induction n with
 |zero=>intro t b h;have:=t.gU;omega
 |succ n q=>
  intro a b h u;cases a with
  |mk k s ts l=>
  cases b with
  |mk k' f us m=>
   rw[Fm.gh] at h u;have B:=Fm.lQ l;have v:=Tm.lQ ts;rw[iM];simp only[Fm.cZ,Fm.df,Fm.fv,Fm.dI,cT,cW (l:=l) (by omega),cW (l:=ts) (by omega),cL,cR,et]
   have no:¬(k=k'/\s=f/\ts=us/\l=m)->∃r,some false=some r/\(r=true↔Fm.mk k s ts l=Fm.mk k' f us m):=by
    intro hn;refine⟨false,rfl,?_⟩;simp only[qJ,UI,Fm.mk.injEq];exact hn
   by_cases d:k≠k'
   ·rw[cG d,cG trivial];exact no λh=>d h.1
   ·rw[cB d];obtain⟨r,w,p⟩:=tN FU s f (by rw[dP];omega) (by omega);rw[w];simp only[cz]
    by_cases e:r=true
    ·have hs:=p.1 e;rw[cG e]
     by_cases g:(ts.length:Int)≠us.length
     ·rw[cG g,cG trivial];exact no λh=>g (by rw[h.2.2.1])
     ·rw[cB g]
      by_cases hm:(l.length:Int)≠m.length
      ·rw[cG hm];exact no λh=>hm (by rw[h.2.2.2])
      ·rw[cB hm];obtain⟨o,z,k2⟩:=wZ (E:=λx y=>gx FU x y) (l:=ts) (m:=us) (by omega) (λx c y=>tX FU x y (by have:=da Tm.wt c;rw[dP];omega) (by have:=da Tm.wt c;omega));rw[z];rcases k2 with⟨rfl,i⟩|⟨rfl,i⟩
       ·simp only[cz,cQ];obtain⟨o,q1,A⟩:=wZ (E:=λx y=>iM n x y) (l:=l) (m:=m) (by omega) (λx c y=>q x y (by have:=da Fm.wt c;omega) (by have:=da Fm.wt c;omega));rw[q1];rcases A with⟨rfl,j⟩|⟨rfl,j⟩
        ·exact⟨true,rfl,by simp only[Om,Fm.mk.injEq];exact⟨wy.1 d,hs,i,j⟩⟩
        ·exact no λh=>j h.2.2.2
       ·exact no λh=>i h.2.2.1
    ·rw[cB e,cG trivial];exact no λh=>e (p.2 h.2.1)
def Fp:∀(n:Nat) (a b:Fm),a.wt<=n->a.wt<=1000000000->∃r,ny n a b=some r/\(r=true↔a=b):=by
 intro n
 induction n with
 |zero=>intro t b h;have:=t.gU;omega
 |succ n u=>
  intro a b h v;cases a with
  |mk k s ts l=>
  cases b with
  |mk k' i us m=>
   rw[Fm.gh] at h v;have C:=Fm.lQ l;have w:=Tm.lQ ts;rw[ny];simp only[Fm.cZ,Fm.df,Fm.fv,Fm.dI,cT,cW (l:=l) (by omega),cL,cR,et]
   have no:¬(k=k'/\s=i/\ts=us/\l=m)->∃r,some false=some r/\(r=true↔Fm.mk k s ts l=Fm.mk k' i us m):=by
    intro hn;refine⟨false,rfl,?_⟩;simp only[qJ,UI,Fm.mk.injEq];exact hn
   have c:∃r,oD ts us=some r/\(r=true↔ts=us):=by
    unfold oD;simp only[cR,et,cT,cW (l:=ts) (by omega),cL]
    by_cases d:(ts.length:Int)≠us.length
    ·rw[cG d];exact⟨false,rfl,by simp only[qJ,UI];rintro rfl;exact d rfl⟩
    ·rw[cB d];obtain⟨o,z,k2⟩:=wZ (E:=λx y=>iv FU x y) (l:=ts) (m:=us) (by omega) (λx e y=>xI FU x y (by have:=da Tm.wt e;rw[dP];omega) (by have:=da Tm.wt e;omega));rw[z];rcases k2 with⟨rfl,j⟩|⟨rfl,j⟩
     ·exact⟨true,rfl,by simpa using j⟩
     ·exact⟨false,rfl,by simpa using j⟩
   by_cases f:k≠k'
   ·rw[cG f,cG trivial];exact no λh=>f h.1
   ·rw[cB f,gl (by omega)];simp only[cz]
    by_cases g:s.jA i=true
    ·have hs:=(Ty.jj _ _).1 g;obtain⟨r,A,q⟩:=c;rw[cG g,A];simp only[cz]
     by_cases d:r=true
     ·rw[cG d]
      by_cases hm:(l.length:Int)≠m.length
      ·rw[cG hm];exact no λh=>hm (by rw[h.2.2.2])
      ·rw[cB hm];obtain⟨o,q1,B⟩:=wZ (E:=λx y=>ny n x y) (l:=l) (m:=m) (by omega) (λx e y=>u x y (by have:=da Fm.wt e;omega) (by have:=da Fm.wt e;omega));rw[q1];rcases B with⟨rfl,p⟩|⟨rfl,p⟩
       ·exact⟨true,rfl,by simp only[Om,Fm.mk.injEq];exact⟨wy.1 f,hs,q.1 d,p⟩⟩
       ·exact no λh=>p h.2.2.2
     ·rw[cB d,cG trivial];exact no λh=>d (q.2 h.2.2.1)
    ·rw[cB g,cG trivial];exact no λh=>g ((Ty.jj _ _).2 h.2.1)
def B2(l:List Ty)(t:Tm):Tm:=l.foldr (λs b=>.mk 2 0 s [b]) t
def OD{l:List Ty}(n:l.length<=1000):∀(i m:Nat) (t:Tm),i<=l.length->i<m->lu ((M4 λ(b:Int) (c:Int) (v59:Int) (d:Int) (e:List Ty) (f:List Tm)=>
   if(qT b 0)=true then(
   cA (c_ l b) λg=>
   some (.next ((dX .i64 b 1),2,0,g.abd,g.abe,[(Tm.mk c v59 (Ty.mk d e) f)])))
   else(some (.zO (b,c,v59,d,e,f)))):(Int×Int×Int×Int×(List Ty)×(List Tm))->(Option (eA (Int×Int×Int×Int×(List Ty)×(List Tm)) (Tm)))) m ((i:Int)-1,t.abd,t.abg,t.cD.abd,t.cD.abe,t.abe)=some (.inl (-1,(B2 (l.take i) t).abd,(B2 (l.take i) t).abg,(B2 (l.take i) t).cD.abd,(B2 (l.take i) t).cD.abe,(B2 (l.take i) t).abe))
 |0,m+1,t,_,_=>by
  rw[lE];simp only[M4];rw[cB (by rw[gP];omega)];rfl
 |i+1,m+1,t,hi,hm=>by
  rw[lE];simp only[M4];rw[cG (by rw[gP];omega),show((i+1:Nat):Int)-1=(i:Int) by omega,hB,na (by omega)];simp only[cz,dL];rw[dW (by omega) (by omega)]
  have p:Ty.mk (l[i]).abd (l[i]).abe=l[i]:=by cases l[i];rfl
  have o:Tm.mk t.abd t.abg (Ty.mk t.cD.abd t.cD.abe) t.abe=t:=by cases t with|mk k j s a=>cases s;rfl
  have h:=OD n i m (.mk 2 0 l[i] [t]) (by omega) (by omega);rw[o];refine h.trans ?_;rw[vj,na (by omega)];simp only[B2,JW,Wo,List.foldr_cons,List.foldr_nil]
def wH(t:Tm)(l:List Ty)(b:l.length<=1000):r8 t l=some (B2 l t):=by
 unfold r8;simp only[cT];rw[et,dW (by omega) (by omega)];have h:=OD b l.length FU t (hO _) (Rs (by omega));rw[h,cz,List.take_length];generalize B2 l t=r;cases r with|mk k j s a=>cases s;rfl
def zh(t a:Tm):pQ t [a]=some (.mk 3 0 (.mk 0 []) [t,a]):=by cases t with|mk k j s l=>cases s;rfl
def G2(t a b:Tm):pQ t [a,b]=some (.mk 3 0 (.mk 0 []) [.mk 3 0 (.mk 0 []) [t,a],b]):=by cases t with|mk k j s l=>cases s;rfl
def Rl:Tm:=B2 [.nat] (.mk 6 0 .nat [.mk 4 0 (.mk 0 []) [],B2 [.nat,.nat] (.mk 1 1 (.mk 0 []) []),.mk 1 0 (.mk 0 []) []])
def Fu:rU=some Rl:=by
 unfold rU kV oG gf we;simp only[mX,cz,wH _ _ (show[Ty.nat,Ty.nat].length<=1000 by decide),wH _ _ (show[Ty.nat].length<=1000 by decide)];rfl
def Xl:Tm:=B2 [.nat,.nat] (.mk 6 0 .nat [.mk 1 1 (.mk 0 []) [],B2 [.nat,.nat] (.mk 3 0 (.mk 0 []) [Rl,.mk 1 0 (.mk 0 []) []]),.mk 1 0 (.mk 0 []) []])
def HB:uC=some Xl:=by
 unfold uC kV wU gf we;simp only[Fu,mX,cz,zh,wH _ _ (show[Ty.nat,Ty.nat].length<=1000 by decide)];rfl
def Rz(a b:Tm):Fm:=.mk 1 (.mk 0 []) [.mk 3 0 (.mk 0 []) [.mk 3 0 (.mk 0 []) [Xl,.mk 5 0 (.mk 0 []) [a]],b],.mk 4 0 (.mk 0 []) []] []
def EU(a b:Tm):rE a b=some (Rz a b):=by
 unfold rE oG ot;simp only[HB,cz,G2];rfl
def Nu:∀x y:Fin 8,∃z:Fin 8,nI .u8 (x:Nat) (y:Nat)=(z:Nat)/\((z:Nat)%2=1↔(x:Nat)%2=1/\(y:Nat)%2=1):=by decide
def Qv:∀x y:Fin 8,∃z:Fin 8,tO .u8 (x:Nat) (y:Nat)=(z:Nat)/\((z:Nat)%2=1↔(x:Nat)%2=1\/(y:Nat)%2=1):=by decide
def Mk(b:Bool)(m:Int):Prop:=∃x:Fin 8,m=((x:Nat):Int)/\((x:Nat)%2=1↔b=true)
def Mk.and{a b:Bool}{x y:Int}(c:Mk a x)(hy:Mk b y):Mk (a&&b) (nI .u8 x y):=by
 obtain⟨x,rfl,d⟩:=c;obtain⟨y,rfl,e⟩:=hy;obtain⟨z,f,g⟩:=Nu x y;exact⟨z,f,by rw[g,d,e,eJ]⟩
def Mk.or{a b:Bool}{x y:Int}(c:Mk a x)(hy:Mk b y):Mk (a||b) (tO .u8 x y):=by
 obtain⟨x,rfl,d⟩:=c;obtain⟨y,rfl,e⟩:=hy;obtain⟨z,f,g⟩:=Qv x y;exact⟨z,f,by rw[g,d,e,ni]⟩
def Mk.one:Mk true 1:=⟨1,rfl,by decide⟩
def Mk.six:Mk false 6:=⟨6,rfl,by decide⟩
def Mk.four:Mk false 4:=⟨4,rfl,by decide⟩
def Mk.bit{b:Bool}{m:Int}(h:Mk b m):dr (nI .u8 m 1) 0=b:=by
 obtain⟨x,rfl,a⟩:=h
 have key:∀x:Fin 8,dr (nI .u8 ((x:Nat):Int) 1) 0=decide ((x:Nat)%2=1):=by decide
 rw[key x];cases b with
 |false=>exact Ae (λh=>by have:=a.1 h;cases this)
 |true=>exact sw (a.2 rfl)
def Fm.T1{a:Fm}(d:a.ok=true)(c:a.abd=2\/a.abd=3):∃p q,a=.mk a.abd (.mk 0 []) [] [p,q]/\p.ok=true/\q.ok=true:=by
 refine Fm.mx (p:=λa=>a.abd=2\/a.abd=3->∃p q,a=.mk a.abd (.mk 0 []) [] [p,q]/\p.ok=true/\q.ok=true) ?_ ?_ ?_ a d c
 ·intro a b _ _ h;rcases h with h|h<;>cases h
 ·intro k a b _ e f _ _ _;exact⟨a,b,rfl,e,f⟩
 ·intro k s a c _ _ _ h;have h:k=2\/k=3:=h;omega
def Fm.Xr{a:Fm}(d:a.ok=true)(e:a.abd=1):∃u v,a=.mk 1 (.mk 0 []) [u,v] []/\u.ok=true/\v.ok=true:=by
 refine Fm.mx (p:=λa=>a.abd=1->∃u v,a=.mk 1 (.mk 0 []) [u,v] []/\u.ok=true/\v.ok=true) ?_ ?_ ?_ a d e
 ·intro a b f g _;exact⟨a,b,rfl,f,g⟩
 ·intro k a b c _ _ _ _ h;have h:k=1:=h;omega
 ·intro k s a c _ _ _ h;have h:k=1:=h;omega
def Tm.RZ{a:Tm}(e:a.ok=true)(f:a.abd=3):∃c d,a=.mk 3 0 .z [c,d]/\c.ok=true/\d.ok=true:=by
 refine Tm.mx (p:=λa=>a.abd=3->∃c d,a=.mk 3 0 .z [c,d]/\c.ok=true/\d.ok=true) ?_ ?_ ?_ ?_ ?_ ?_ ?_ ?_ ?_ ?_ ?_ ?_ ?_ a e f
 case refine_3=>intro a b g i _;exact⟨a,b,rfl,g,i⟩
 all_goals(intros;rename_i h;cases h)
def CV{k:Int}{s:Ty}{a:Fm}(R:(Fm.mk k s [] [a]).ok=true)(hn:(Fm.mk k s [] [a]).abf<=1000000)(I:a.abj 1000000000000=true)(n:a.ok=true):∃b t q ok,qQ (.mk k s [] [a])=some (b,t,q,ok)/\(ok=true->q.ok=true/\q.abf<a.abf/\q.abj 1000000000000=true):=by
 rw[Fm.cI] at hn;simp only[cX] at hn;have no:∃b t q ok,(some (false,(Tm.mk 0 0 (Ty.mk 0 []) []),(Fm.mk 0 (Ty.mk 0 []) [] []),false):Option (Bool×Tm×Fm×Bool))=some (b,t,q,ok)/\(ok=true->q.ok=true/\q.abf<a.abf/\q.abj 1000000000000=true):=⟨_,_,_,_,rfl,by simp⟩;unfold qQ
 obtain⟨o,j,J,S⟩:∃o j,qO (de (Fm.mk k s [] [a]).abd 4)=some (o,j)/\(j=2\/j=3):=by
  unfold qO
  split
  ·exact⟨_,_,rfl,.inr rfl⟩
  ·exact⟨_,_,rfl,.inl rfl⟩
 rw[J,cF];simp only[cT]
 by_cases E:dr (Fm.mk k s [] [a]).abd o=true
 ·rw[cG E,cG trivial];exact no
 rw[cB E]
 by_cases F:dr (Fm.mk k s [] [a]).cD.abd 1=true
 ·rw[cG F,cG trivial];exact no
 rw[cB F];simp only[Fm.cZ,dk,gz,cz]
 by_cases c3:dr a.abd j=true
 ·rw[cG c3,cG trivial];exact no
 rw[cB c3]
 have w:a.abd=2\/a.abd=3:=by
  have:a.abd=j:=by simpa[dr] using c3
  omega
 obtain⟨p,q,e,G,K⟩:=Fm.T1 n w;have x:a.abe=[p,q]:=(congrArg Fm.abe e).trans rfl
 have L:a.abf=1+p.abf+q.abf:=by rw[e,Fm.cI];simp[cX];omega
 have l:p.abj 1000000000000=true/\q.abj 1000000000000=true:=by
  have f:=I;rw[e,Fm.ec] at f;simp only[Qu,uw,xl,xe,eJ] at f;exact f
 have M:=p.dg;rw[x];simp only[dk,eD,gz,kf,cz]
 by_cases y:dr p.abd 1=true
 ·rw[cG y];exact no
 rw[cB y]
 have z:p.abd=1:=by simpa[dr] using y
 obtain⟨u,v,g,hu,T⟩:=Fm.Xr G z;have A:p.cU=[u,v]:=(congrArg Fm.cU g).trans rfl
 have h:u.abj 1000000000000=true:=by
  have:=l.1;rw[g,Fm.ec] at this;simp only[uw,eJ] at this;exact this.1.1
 have N:p.abf=1+u.abf+v.abf:=by rw[g,Fm.cI];simp[cX];omega
 rw[A];simp only[dk,gz,cz]
 by_cases c5:dr u.abd 3=true
 ·rw[cG c5,cG trivial];exact no
 rw[cB c5]
 have B:u.abd=3:=by simpa[dr] using c5
 obtain⟨c,d,i,U,O⟩:=Tm.RZ hu B;have C:u.abe=[c,d]:=(congrArg Tm.abe i).trans rfl
 have P:u.abf=1+c.abf+d.abf:=by rw[i,Tm.cI];simp[cX];omega
 have D:d.abj 1000000000000=true:=by
  rw[i,Tm.ec] at h;simp only[uw,eJ] at h;exact h.2.2.1
 rw[C];simp only[eD,kf,gz,cz];rw[xr 0 ⟨O,D,by omega⟩,cz];have yes:∃b t m ok,(some (de (Fm.mk k s [] [a]).abd 4,d,q,true):Option (Bool×Tm×Fm×Bool))=some (b,t,m,ok)/\(ok=true->m.ok=true/\m.abf<a.abf/\m.abj 1000000000000=true):=⟨_,_,_,_,rfl,λ_=>⟨K,by omega,l.2⟩⟩
 by_cases H:mV (d.abl 0:Int) 0=true
 ·rw[cG H,cG trivial];exact no
 rw[cB H];have hw:=p.hZ G;obtain⟨r,Q,_⟩:=xc FU p (Rz (.mk 1 0 (.mk 0 []) []) d) (by rw[dP];omega) (by omega);rw[show gf 0=some (Tm.mk 1 0 (.mk 0 []) [])from rfl,cz,EU,cz,Q,cz];cases r with
 |true=>rw[show k4 true=false from rfl,cB (by decide)];exact yes|false=>rw[show k4 false=true from rfl,cG rfl];exact no
def IX:∀(n:Nat) (f:Fm),f.abf<=n->f.abf<=1000000->f.ok=true->f.abj 1000000000000=true->∃m,lj n f=some m/\Mk f.has m:=by
 intro n
 induction n with
 |zero=>intro f h;have:=f.dg;omega
 |succ n w=>
  intro f hn e x c;refine Fm.mx (p:=λf=>f.abf<=n+1->f.abf<=1000000->f.ok=true->f.abj 1000000000000=true->∃m,lj (n+1) f=some m/\Mk f.has m) ?_ ?_ ?_ f x hn e x c
  ·intro a b _ _ _ _ _ _;rw[lj,cG (by rfl)];exact⟨6,rfl,by rw[Fm.has_eq];exact Mk.six⟩
  ·intro k a b y z B _ _ hn e _ c;rw[Fm.cI] at hn e;simp only[cX] at hn e;rw[Fm.ec] at c;simp only[Qu,uw,xl,xe,eJ] at c;obtain⟨A,C,r⟩:=w a (by omega) (by omega) z c.1;obtain⟨j,D,u⟩:=w b (by omega) (by omega) B c.2
   have d:k≠1:=by omega
   have E:ew (de k 2) true (de k 3)=true:=by rcases y with rfl|rfl<;>rfl
   rw[lj,cB (show¬de (Fm.mk k (.mk 0 []) [] [a,b]).abd 1=true by simpa[de] using d)]
   have F:c_ [a,b] (dX .i64 (dm [a,b]) 1)=some b:=by rw[dW (by simp) (by simp)];rfl
   simp only[Fm.cZ,F,cz,D,cT];rw[cG (show ew (de (Fm.mk k (.mk 0 []) [] [a,b]).abd 2) true (de (Fm.mk k (.mk 0 []) [] [a,b]).abd 3)=true from E)];simp only[dk,gz,cz,C,Fm.df];refine⟨_,rfl,?_⟩;rw[Fm.K9,cB d];have l:=(r.and u).and Mk.six;rw[Bool.and_false] at l;rcases y with rfl|rfl
   ·rw[show ew (de 2 2) (tO .u8 j A) j=tO .u8 j A from rfl];have g:=(u.or r).and Mk.one;rw[xl] at g;have:=l.or g;rw[X3,Bool.or_comm] at this;simpa using this
   ·rw[show ew (de 3 2) (tO .u8 j A) j=j from rfl];have g:=u.and Mk.one;rw[xl] at g;have:=l.or g;rw[X3] at this;simpa using this
  ·intro k s a y hs z _ hn e x c;have G:=e;rw[Fm.cI] at hn e;simp only[cX] at hn e;rw[Fm.ec] at c;simp only[Qu,uw,xl,xe] at c;obtain⟨A,C,r⟩:=w a (by omega) (by omega) z c
   have d:k≠1:=by omega
   have E:ew (de k 2) true (de k 3)=false:=by rcases y with rfl|rfl|rfl|rfl<;>rfl
   rw[lj,cB (show¬de (Fm.mk k s [] [a]).abd 1=true by simpa[de] using d)]
   have F:c_ [a] (dX .i64 (dm [a]) 1)=some a:=by rw[dW (by simp) (by simp)];rfl
   simp only[Fm.cZ,F,cz,C,cT];rw[cB (show¬ew (de (Fm.mk k s [] [a]).abd 2) true (de (Fm.mk k s [] [a]).abd 3)=true by rw[show ew (de (Fm.mk k s [] [a]).abd 2) true (de (Fm.mk k s [] [a]).abd 3)=false from E];decide)];obtain⟨b,t,q,ok,L,M⟩:=CV x G c z;rw[L]
   have fin:∀(v:Int) (K:Mk (Fm.mk k s [] [a]).has v),∃m,(LG (some (b,t,q,ok)) λN O H I=>if I=true then(cA (lj n H) λo=>some (tO .u8 (nI .u8 v 1) (nI .u8 o 4)))else(some (nI .u8 v 1)))=some m/\Mk (Fm.mk k s [] [a]).has m:=by
    intro v K;show∃m,(if ok=true then(cA (lj n q) λo=>some (tO .u8 (nI .u8 v 1) (nI .u8 o 4)))else(some (nI .u8 v 1)))=some m/\Mk (Fm.mk k s [] [a]).has m;have l:=K.and Mk.one;rw[xl] at l;cases ok with
    |false=>exact⟨_,rfl,l⟩|true=>
     obtain⟨d1,d2,d3⟩:=M rfl;obtain⟨j,D,u⟩:=w q (by omega) (by omega) d1 d3;rw[cG rfl,D];refine⟨_,rfl,?_⟩;have g:=u.and Mk.four;rw[Bool.and_false] at g;have:=l.or g
     rwa [Bool.or_false] at this
   have i:(Fm.mk k s [] [a]).has=if k=5 then true else a.has:=by
    rw[Fm.y5,cB d]
   by_cases J:k=5
   ·subst J;rw[cG (by rfl)];refine fin _ ?_;rw[i,cG rfl];have:=r.or Mk.one
    rwa [Bool.or_true] at this
   ·rw[cB (show¬de (Fm.mk k s [] [a]).abd 5=true by simpa[de] using J)];refine fin _ ?_;rw[i,cB J];exact r
def Af{f:Fm}(hw:f.wt<=1000000000)(b:f.abj 1000000000000=true):mL f=some (if f.err≠0 then(false,f.err)else(f.has,0)):=by
 unfold mL wR;rw[jy hw,cz]
 by_cases he:f.err=0
 ·obtain⟨a,hn⟩:=Fm.fj he;obtain⟨m,c,d⟩:=IX FU f (by have:=dP;omega) (by omega) a b;rw[cB (by rw[cR];simpa using he),c,cz,d.bit,cF,cB (by simpa using he)]
 ·rw[cG (by rw[cR];exact he),cF,cG he]
def kQ{α:Type}(m:List (Int×α)):List Int:=m.map (·.1)
def zy{α:Type}(k:Int)(v:α):∀(m:List (Int×α)) (x:Int),x∈kQ (uf m k v)↔x=k\/x∈kQ m
 |[],x=>by simp[uf,kQ]|p::m,x=>by
  unfold uf
  by_cases h:p.1=k
  ·rw[cG h];subst h;simp[kQ]
  ·rw[cB h];have a:=zy k v m x;simp only[kQ,mi,jz] at a|-;rw[a];constructor
   ·rintro(h|h|h)
    ·exact .inr (.inl h)
    ·exact .inl h
    ·exact .inr (.inr h)
   ·rintro(h|h|h)
    ·exact .inr (.inl h)
    ·exact .inl h
    ·exact .inr (.inr h)
def x_{α:Type}(k:Int)(v:α):∀(m:List (Int×α)),(kQ m).Nodup->(kQ (uf m k v)).Nodup
 |[],_=>by simp[uf,kQ]|p::m,h=>by
  have b:p.1∉kQ m/\(kQ m).Nodup:=SS.1 h;unfold uf
  by_cases a:p.1=k
  ·rw[cG a];subst a;exact h
  ·rw[cB a];refine SS.2 ⟨λhm=>?_,x_ k v m b.2⟩;rcases(zy k v m p.1).1 hm with e|e
   ·exact a e
   ·exact b.1 e
def CX{α:Type}(k:Int)(v:α):∀(m:List (Int×α)),(uf m k v).length<=m.length+1
 |[]=>by simp[uf]|p::m=>by
  unfold uf
  split
  ·simp
  ·have:=CX k v m;simp only[jW];omega
def IH(n:Int):∀l:List Int,(Gs n l).length=l.length+1
 |[]=>rfl|a::l=>by
  unfold Gs
  split
  ·rfl
  ·simp[IH n l]
def FH:∀(l acc:List Int),(vE acc l).length=acc.length+l.length
 |[],acc=>by simp[vE]|a::l,acc=>by rw[vE,FH l,IH];simp only[jW];omega
def EL:∀(n:Nat) (t:Tm) (d:Int) (m:List (Int×Bool)),t.abf<=n->t.abf<=100000000->0<=d->d+t.abf<=1000000000->t.abj 4611686018427387904=true->(kQ m).Nodup->∃q,rY n t d m=some q/\(kQ q).Nodup/\q.length<=m.length+t.abf/\∀x,x∈kQ q↔x∈kQ m\/(0<=x/\0<t.abl (x+d)):=by
 intro n
 induction n with
 |zero=>intro t d m h;have:=t.dg;omega
 |succ n J=>
  intro t d m hn w K L C hm;cases t with
  |mk k i s l=>
   have D:=fV k;rw[Tm.cI] at hn w L;have hlen:=fO Tm.abf l λt _=>t.dg;rw[Tm.ec,eJ,kR,jr] at C
   have abe:∀(F:Int->Tm->List (Int×Bool)->Option (eA (List (Int×Bool)) (List (Int×Bool)))),(∀j x v,F j x v=cA (jS (Tm.mk k i s l)) λb=>cA (rY n x (dB .i64 d b) v) λr=>some (.next r))->∀(as:List Tm) (j:Nat) (v:List (Int×Bool)),(∀a∈as,a∈l)->(kQ v).Nodup->∃e,dH F as j v=some (.inl e)/\(kQ e).Nodup/\e.length<=v.length+cX Tm.abf as/\∀x,x∈kQ e↔x∈kQ v\/(0<=x/\0<cX (Tm.abl (x+d+d_ k)) as):=by
    intro F hF as
    induction as with
    |nil=>intro j v _ y;exact⟨v,rfl,y,by simp[cX],λx=>by simp[cX]⟩|cons a as z=>
     intro j v has y;have E:=has a (by simp);have M:=da Tm.abf E;have A:=C.2 a E;obtain⟨v1,f,g,G,o⟩:=J a (d+d_ k) v (by omega) (by omega) (by omega) (by omega) A y;obtain⟨v2,g1,g2,g3,g4⟩:=z (j+1) v1 (λb w=>has b (by simp[w])) g;refine⟨v2,?_,g2,by simp only[cX];omega,λx=>?_⟩
     ·rw[dC,hF,lV];simp only[cz,Tm.df];rw[dJ (by omega) (by omega),f];simp only[cz,dL];exact g1
     ·rw[g4,o];simp only[cX];rw[<-Int.add_assoc];constructor
      ·rintro((h|h)|h)
       ·exact .inl h
       ·exact .inr ⟨h.1,by omega⟩
       ·exact .inr ⟨h.1,by omega⟩
      ·rintro(h|⟨h,u⟩)
       ·exact .inl (.inl h)
       ·by_cases N:0<a.abl (x+d+d_ k)
        ·exact .inl (.inr ⟨h,N⟩)
        ·exact .inr ⟨h,by omega⟩
   unfold rY;simp only[cT,Tm.cZ,cW (l:=l) (by omega),cL,Tm.df,Tm.eE];rw[Tm.cI]
   by_cases p:k=1/\d<=i
   ·have c:ew (de k 1) (qT i d) false=true:=by simp[ew,p.1,p.2]
    simp only[c,if_true];rw[dW (by omega) (by omega)];obtain⟨e,f,g,G,o⟩:=abe _ (λ_ _ _=>rfl) l 0 (uf m (i-d) true) (λa h=>h) (x_ _ _ _ hm);refine⟨e,by rw[f];rfl,g,by have:=CX (i-d) true m;omega,λx=>?_⟩;rw[o,zy,Tm.eQ];constructor
    ·rintro((h|h)|h)
     ·exact .inr ⟨by omega,by rw[cG ⟨p.1,by omega⟩];omega⟩
     ·exact .inl h
     ·exact .inr ⟨h.1,by omega⟩
    ·rintro(h|⟨h,u⟩)
     ·exact .inl (.inr h)
     ·by_cases H:x=i-d
      ·exact .inl (.inl H)
      ·rw[cB (λI=>H (by omega))] at u;exact .inr ⟨h,by omega⟩
   ·have c:ew (de k 1) (qT i d) false=false:=by
     unfold ew
     split
     ·rename_i O
      have B:k=1:=by simpa using O
      simp only[qT,OQ]
      exactλh=>p ⟨B,h⟩
     ·rfl
    simp only[c,qJ,lG];obtain⟨e,f,g,G,o⟩:=abe _ (λ_ _ _=>rfl) l 0 m (λa h=>h) hm;refine⟨e,by rw[f];rfl,g,by omega,λx=>?_⟩;rw[o,Tm.eQ];constructor
    ·rintro(h|h)
     ·exact .inl h
     ·exact .inr ⟨h.1,by omega⟩
    ·rintro(h|⟨h,u⟩)
     ·exact .inl h
     ·rw[cB (λI=>p ⟨I.1,by omega⟩)] at u;exact .inr ⟨h,by omega⟩
def E3{t:Tm}(hw:t.wt<=1000000000)(d:t.abj 4611686018427387904=true)(he:t.err=0):∃l,yd t=some (l,0)/\Ec l/\l.length<=4096/\∀x,x∈l↔0<=x/\0<t.abl x:=by
 have hn:t.abf<=4096:=by
  unfold Tm.err at he
  split at he
  ·split at he
   ·cases he
   ·omega
  ·cases he
 obtain⟨m,e,c,f,g⟩:=EL FU t 0 [] (by rw[dP];omega) (by omega) (by omega) (by omega) d (by simp[kQ])
 have a:(m.map (·.1)).Nodup:=c
 have b:m.length<=4096:=by simpa using Av f (by simpa using hn)
 refine⟨vE [] (kQ m),?_,AE _ [] .nil c (by simp),?_,λx=>?_⟩
 ·unfold yd;rw[kz hw,he];simp only[cz];rw[cB (by decide),e];simp only[cz];unfold ru
  rw[cW (by omega),cL,show wO (m.map (·.1))=true from by simp[wO,a],cL]
  rfl
 ·rw[FH];simp[kQ,b]
 ·rw[zX,g];simp[kQ]
def Cn{n:Int}(a:0<=n)(b:n<4294967296):IntKind.u32.wrap n=n:=by
 unfold IntKind.wrap;simp only[show IntKind.u32.bits=32 from rfl,show IntKind.u32.signed=false from rfl,Qd,qJ,lG,show((2:Int)^32)=4294967296 from rfl];omega
def GV(a:Nat):BitVec.ofInt 32 (a:Int)=BitVec.ofNat 32 a:=by simp
def Hv{a b:Nat}(d:a<4294967296)(e:b<4294967296):tO .u32 (a:Int) (b:Int)=((a|||b:Nat):Int):=by
 unfold tO;have c:a|||b<2^32:=Kh (by omega) (by omega);rw[show IntKind.u32.bits=32 from rfl,GV,GV,BitVec.toNat_or,UX,UX,S1 (by omega),S1 (by omega)];exact Cn (by omega) (by omega)
def IV{a b:Nat}(d:a<4294967296)(e:b<4294967296):nI .u32 (a:Int) (b:Int)=((a&&&b:Nat):Int):=by
 unfold nI;have c:a&&&b<2^32:=Td _ (by omega);rw[show IntKind.u32.bits=32 from rfl,GV,GV,BitVec.toNat_and,UX,UX,S1 (by omega),S1 (by omega)];exact Cn (by omega) (by omega)
def Oc{k:Nat}(b:k<32):NM .u32 1 (k:Int)=((2^k:Nat):Int):=by
 unfold NM;rw[show IntKind.u32.bits=32 from rfl,BM,P_ (by omega),Int.one_mul];have a:2^k<2^32:=QG (by decide) b;rw[show((2:Int)^k)=((2^k:Nat):Int) by push_cast;rfl];exact Cn (PN _) (Int.ofNat_lt.2 (Nn a rfl))
def Nf{a k:Nat}(b:k<=32):Oj .u32 (a:Int) (k:Int)=((a/2^k:Nat):Int):=by
 unfold Oj;rw[show IntKind.u32.bits=32 from rfl,BM,P_ b];rw[show((2:Int)^k)=((2^k:Nat):Int) by push_cast;rfl];rw[Int.fdiv_eq_ediv_of_nonneg _ (PN _)];rfl
structure Us (l:List Int) (m:Nat):Prop where
 lt:m<4294967296
 pos:∀x∈l,0<=x
 V2:Ec l
 mem:∀i:Nat,(i:Int)∈l↔m.testBit i=true
def Us.nil:Us [] 0:=⟨by decide,by simp,by first|exact .nil|trivial|simp[Ec],by simp⟩
def Aq{i b:Int}{m:Nat}(hm:m<4294967296)(g:0<=i)(l:i<=1000000000000)(o:0<=b)(p:b<=1000000000)(q:i-b<32):∃c:Nat,lv i b (m:Int)=some (c:Int)/\c<4294967296/\∀j:Nat,c.testBit j=true↔m.testBit j=true\/i=j+b:=by
 unfold lv
 by_cases h:b<=i
 ·rw[cG (by rw[gP];exact h),dW (by omega) (by omega),show Ex (i-b)=true by simp[Ex];omega,cL];obtain⟨k,f⟩:∃k:Nat,i-b=(k:Int):=⟨(i-b).toNat,by omega⟩
  have a:k<32:=by omega
  have d:2^k<4294967296:=Nn (QG (by decide) a) rfl;rw[f,Oc a,Hv hm d];refine⟨m|||2^k,rfl,Kh (n:=32) (by omega) (by omega),λj=>?_⟩;rw[PZ,ni,XP,RX];constructor
  ·rintro(h|h)
   ·exact .inl h
   ·exact .inr (by omega)
  ·rintro(h|h)
   ·exact .inl h
   ·exact .inr (by omega)
 ·rw[cB (by rw[gP];exact h)];exact⟨m,rfl,hm,λj=>⟨.inl,λe=>e.elim id λe=>absurd e (by omega)⟩⟩
def CL:∀(n:Nat) (t:Tm) (b:Int) (m:Nat),t.abf<=n->t.abf<=1000000->t.ok=true->t.abj 1000000000000=true->0<=b->b+t.abf<=1000000000->m<4294967296->(∀j:Int,32<=j->t.abl (j+b)=0)->∃g:Nat,hU n t b (λ(s:Int) (o:Int) (p:Int)=>lv o p s) (m:Int)=some (g:Int)/\g<4294967296/\∀j:Nat,g.testBit j=true↔m.testBit j=true\/0<t.abl (j+b):=by
 intro n
 induction n with
 |zero=>intro t b m h;have:=t.dg;omega
 |succ n L=>
  intro t b m hn M N r O w hm c;cases t with
  |mk k i s l=>
   rw[Tm.cI] at hn M w;have hlen:=Tm.dT l;have hi:=Tm.jQ N;rw[Tm.ec,eJ,RX,jr] at r;have P:=fV k;rw[hU];simp only[cT]
   have x:∀j:Int,32<=j->∀t∈l,t.abl (j+(b+d_ k))=0:=by
    intro j y t Q;have z:=c j y;rw[Tm.eQ] at z;have V:=da (Tm.abl (j+b+d_ k)) Q;rw[show j+(b+d_ k)=j+b+d_ k by omega];omega
   have loop:∀(ts:List Tm) (j:Nat) (v:Nat),(∀t∈ts,t∈l)->v<4294967296->∃A:Nat,dH (λ(R:Int) (B:Tm)=>(λ(v28:Int)=>
      cA (hU n B (b+d_ k) (λ(s:Int) (o:Int) (p:Int)=>lv o p s) v28) λC=>
      some ((.next C):eA Int Int))) ts j (v:Int)=some (.inl (A:Int))/\A<4294967296/\∀q:Nat,A.testBit q=true↔v.testBit q=true\/0<cX (Tm.abl (q+b+d_ k)) ts:=by
    intro ts
    induction ts with
    |nil=>intro j v _ D;exact⟨v,by simp,D,λq=>by simp[cX]⟩|cons t ts E=>
     intro j v d D;have a:=d t (by simp);have S:=da Tm.abf a;obtain⟨v1,F,G,H⟩:=L t (b+d_ k) v (by omega) (by omega) (hi.2.2.2.1 t a) (r.2 t a) (by omega) (by omega) D (λj y=>x j y t a);obtain⟨v2,f1,f2,f3⟩:=E (j+1) v1 (λu hu=>d u (by simp[hu])) G;refine⟨v2,?_,f2,λq=>?_⟩
     ·rw[dC,F];simp only[cz,dL];exact f1
     ·rw[f3,H];simp only[cX];rw[show(q:Int)+(b+d_ k)=q+b+d_ k by omega];constructor
      ·rintro((h|h)|h)
       ·exact .inl h
       ·exact .inr (by omega)
       ·exact .inr (by omega)
      ·rintro(h|h)
       ·exact .inl (.inl h)
       ·by_cases T:0<t.abl (q+b+d_ k)
        ·exact .inl (.inr T)
        ·exact .inr (by omega)
   by_cases I:k=1
   ·subst I;rw[cG (show de (Tm.mk 1 i s l).abd 1=true from rfl)];simp only[Tm.cZ,Tm.df,Tm.eE]
    have J:i-b<32:=by
     rcases Int.lt_or_le (i-b) 32 with h|h
     ·exact h
     ·have z:=c (i-b) h;rw[Tm.eQ,cG ⟨rfl,by omega⟩] at z;omega
    obtain⟨U,F,G,H⟩:=Aq hm hi.2.1 r.1 O (by omega) J;rw[F,cz,uh 1 b (by omega) (by omega),cW (by omega),cL];obtain⟨K,f1,f2,f3⟩:=loop l 0 U (λt h=>h) G;refine⟨K,?_,f2,λq=>?_⟩
    ·have e:=f1;rw[show((0:Nat))=0 from rfl] at e;rw[e,cz];rfl
    ·rw[f3,H,Tm.eQ]
     by_cases f:i=q+b
     ·rw[cG ⟨rfl,f⟩];exact⟨λ_=>.inr (by omega),λ_=>.inl (.inr f)⟩
     ·rw[cB (λh=>f h.2),sy];exact⟨λh=>h.elim (λh=>h.elim .inl λh=>absurd h f) .inr,λh=>h.elim (λh=>.inl (.inl h)) .inr⟩
   ·rw[cB (show¬de (Tm.mk k i s l).abd 1=true by simpa[de] using I)];simp only[Tm.cZ,Tm.df,Tm.eE];rw[uh k b (by omega) (by omega),cW (by omega),cL];obtain⟨K,f1,f2,f3⟩:=loop l 0 m (λt h=>h) hm;refine⟨K,by rw[f1,cz];rfl,f2,λq=>?_⟩;rw[f3,Tm.eQ,cB (λh=>I h.1),sy]
def P1{t:Tm}(he:t.err=0)(b:t.abj 1000000000000=true)(c:∀j:Int,32<=j->t.abl j=0):∃(l:List Int) (m:Nat),iN t=some (m:Int)/\j7 t=some l/\Us l m/\∀x,x∈l↔0<=x/\0<t.abl x:=by
 obtain⟨a,hn⟩:=Tm.fj he;have hw:=t.hZ a;obtain⟨m,d,e,f⟩:=CL FU t 0 0 (by have:=dP;omega) (by omega) a b (by omega) (by omega) (by decide) (λj g=>by rw[vk];exact c j g);obtain⟨l,g1,g2,_,g4⟩:=E3 (t:=t) (by omega) (Tm.kH t (by omega) b) he;refine⟨l,m,?_,by unfold j7;rw[g1];rfl,⟨e,λx h=>((g4 x).1 h).1,g2,λi=>?_⟩,g4⟩
 ·unfold iN pj;rw[show(0:Int)=((0:Nat):Int)from rfl] at*;rw[d];rfl
 ·rw[g4,f,vk];simp
def qi(v:List (Int×Bool))(l:List Int):List (Int×Bool):=l.foldl (λv x=>uf v x true) v
def u0:∀(l:List Int) (v:List (Int×Bool)),(kQ v).Nodup->(kQ (qi v l)).Nodup/\(qi v l).length<=v.length+l.length/\∀x,x∈kQ (qi v l)↔x∈kQ v\/x∈l
 |[],v,h=>⟨h,by simp[qi],λx=>by simp[qi]⟩|y::l,v,h=>by
  obtain⟨a,c,b⟩:=u0 l (uf v y true) (x_ y true v h);refine⟨a,?_,λx=>?_⟩
  ·have:=CX y true v;show(qi (uf v y true) l).length<=_;rw[jW];omega
  ·show x∈kQ (qi (uf v y true) l)↔_;rw[b,zy,jz];constructor
   ·rintro((h|h)|h)
    ·exact .inr (.inl h)
    ·exact .inl h
    ·exact .inr (.inr h)
   ·rintro(h|h|h)
    ·exact .inl (.inr h)
    ·exact .inl (.inl h)
    ·exact .inr h
def CS{ρ:Type}:∀(l:List Int) (j:Nat) (v:List (Int×Bool)),dH (λ(c:Int) (a:Int)=>(λ(b:(List (Int×Bool)))=>some ((.next (uf b a true)):eA (List (Int×Bool)) ρ))) l j v=some (.inl (qi v l))
 |[],j,v=>by rw[oA];rfl|x::l,j,v=>by
  rw[dC];simp only[cz,dL];exact CS l (j+1) (uf v x true)
def CO{a b:List Int}(f:a.length<=1000000)(g:b.length<=1000000):∃l,e_ a b=some l/\Ec l/\∀x,x∈l↔x∈a\/x∈b:=by
 obtain⟨c,d,e⟩:=u0 a [] (by simp[kQ]);obtain⟨g1,g2,g3⟩:=u0 b (qi [] a) c;refine⟨vE [] (kQ (qi (qi [] a) b)),?_,AE _ _ .nil g1 (by simp),λx=>?_⟩
 ·unfold e_;simp only[cT];rw[cW (by omega),cL];rw[CS a 0 [],cz,cQ,cW (by omega),cL,CS b 0 _,cz,cQ];unfold ru;simp only[tH] at d;rw[cW (by omega),cL,show wO (List.map (λx=>x.1) (qi (qi [] a) b))=true from sw g1,cL];rfl
 ·rw[zX,g3,e];simp[kQ]
def Us.union{a b:List Int}{m n:Nat}(c:Us a m)(d:Us b n)(e:a.length<=1000000)(f:b.length<=1000000):∃l,e_ a b=some l/\tO .u32 (m:Int) (n:Int)=((m|||n:Nat):Int)/\Us l (m|||n)/\∀x,x∈l↔x∈a\/x∈b:=by
 obtain⟨l,j,k,g⟩:=CO e f;refine⟨l,j,Hv c.lt d.lt,⟨Kh (n:=32) (by have:=c.lt;omega) (by have:=d.lt;omega),λx o=>?_,k,λi=>?_⟩,g⟩
 ·rcases(g x).1 o with h|h
  ·exact c.pos x h
  ·exact d.pos x h
 ·rw[g,c.mem,d.mem,PZ,ni]
def Us.bound{l:List Int}{m:Nat}(h:Us l m):∀x∈l,x<32:=by
 intro x a;have b:=h.pos x a;obtain⟨k,rfl⟩:=Yg b;have:=(h.mem k).1 a;rcases p4 k 32 with h1|h1
 ·omega
 ·exfalso;have c:m<2^k:=ML h.lt (Av (by decide:4294967296<=2^32) (Nat.pow_le_pow_right (by decide) h1));rw[Nat.testBit_lt_two_pow c] at this;cases this
def uj(k:Int)(l:List Int):List Int:=(l.filter λx=>decide (k<=x)).map λx=>x-k
def Dv{k:Int}(e:0<=k)(c:k<=1000):∀(l:List Int) (j:Nat) (v:List Int),(∀x∈l,0<=x/\x<32)->v.length+l.length<=1000000->dH (λ(f:Int) (a:Int)=>(λ(b:List Int)=>
   if(qT a k)=true then(
   fh (eC b [(dX .i64 a k)])<|some ((.next (fp b [(dX .i64 a k)])):eA (List Int) (List Int)))
   else(some (.next b)))) l j v=some (.inl (v++uj k l))
 |[],j,v,_,_=>by simp[uj]|x::l,j,v,h,g=>by
  simp only[jW] at g;have i:=h x (by simp);rw[dC]
  by_cases d:k<=x
  ·rw[cG (by rw[gP];exact d),dK (by simp;omega),cL,dW (by omega) (by omega)];simp only[cz,dL];rw[eW,Dv e c l (j+1) _ (λy hy=>h y (by simp[hy])) (by simp;omega)];simp[uj,d]
  ·rw[cB (by rw[gP];exact d)];simp only[cz,dL];rw[Dv e c l (j+1) v (λy hy=>h y (by simp[hy])) (by omega)];simp[uj,d]
def AR{l:List Int}{m:Nat}(h:Us l m)(d:l.length<=1000000){k:Int}(c:0<=k)(a:k<=1000):fi l k=some (uj k l):=by
 unfold fi;simp only[cT];rw[cW (by omega),cL,Dv c a l 0 [] (λx b=>⟨h.pos x b,h.bound x b⟩) (by simp;omega),cz,cQ,mI]
def Dt(k:Int)(l:List Int)(x:Int):x∈uj k l↔x+k∈l/\0<=x:=by
 unfold uj;simp only[mO,XI,RX];constructor
 ·rintro⟨y,⟨a,b⟩,rfl⟩;exact⟨by rw[Int.sub_add_cancel];exact a,by omega⟩
 ·rintro⟨a,b⟩;exact⟨x+k,⟨a,by omega⟩,by omega⟩
def H4(k:Int):∀{l:List Int},Ec l->Ec (uj k l)
 |[],_=>.nil|a::l,.cons f g=>by
  have c:=H4 k g
  by_cases d:k<=a
  ·have e:uj k (a::l)=(a-k)::uj k l:=by simp[uj,d]
   rw[e];refine .cons (λb h=>?_) c;have:=f _ ((Dt k l b).1 h).1;omega
  ·have e:uj k (a::l)=uj k l:=by simp[uj,d]
   rw[e];exact c
def Us.out{l:List Int}{m:Nat}(h:Us l m)(a:l.length<=1000000){k:Nat}(b:k<=32):fi l (k:Int)=some (uj k l)/\dS (m:Int) (k:Int)=some ((m/2^k:Nat):Int)/\Us (uj k l) (m/2^k):=by
 refine⟨AR h a (by omega) (by omega),?_,⟨R0 (Nat.div_le_self _ _) h.lt,λx c=>((Dt _ _ _).1 c).2,H4 _ h.V2,λi=>?_⟩⟩
 ·unfold dS;rw[show Ex (k:Int)=true by simp[Ex],cL,Nf b]
 ·rw[Dt,show(i:Int)+(k:Int)=((i+k:Nat):Int) by omega,h.mem]
  have e:(m/2^k).testBit i=m.testBit (i+k):=by rw[Nat.testBit_div_two_pow]
  rw[e];exact⟨λh=>h.1,λh=>⟨h,by omega⟩⟩
def Tm.up_add(f b c:Int)(j:0<=b):∀(t:Tm) (d:Int),(t.up (f+d) b).up (f+d) c=t.up (f+d) (b+c):=by
 intro t
 induction t using Tm.ind with
 |h k i s l e=>
  intro d;rw[Tm.fX,Tm.fX,Tm.fX]
  congr 1
  ·by_cases a:k=1/\f+d<=i
   ·rw[cG a,cG ⟨a.1,by omega⟩];omega
   ·rw[cB a,cB a,cB a]
  ·rw[BU]
   exact qo λx g=>by
    have:=e x g (d+d_ k);rw[show f+(d+d_ k)=f+d+d_ k by omega] at this;exact this
def Fm.up_add(f b c:Int)(a:0<=b):∀(t:Fm) (d:Int),(t.up (f+d) b).up (f+d) c=t.up (f+d) (b+c):=by
 intro t
 induction t using Fm.ind with
 |h k s ts l e=>
  intro d;rw[Fm.fX,Fm.fX,Fm.fX]
  congr 1
  ·rw[BU];exact qo λx _=>Tm.up_add f b c a x d
  ·rw[BU]
   exact qo λx g=>by
    have:=e x g (d+qB k);rw[show f+(d+qB k)=f+d+qB k by omega] at this;exact this
def Fm.RV(t:Fm){b c:Int}(a:0<=b):(t.up 0 b).up 0 c=t.up 0 (b+c):=by
 have:=Fm.up_add 0 b c a t 0
 rwa [vk] at this
def Fm.HT(t:Fm):∀f,t.up f 0=t:=by
 induction t using Fm.ind with
 |h k s ts l a=>
  intro f;rw[Fm.fX]
  congr 1
  ·rw[qo (g:=id) λx _=>Tm.oE x _];simp
  ·rw[qo (g:=id) λx b=>a x b _];simp
def Fm.oE(t:Fm):t.up 0 0=t:=Fm.HT t 0
structure Hy (f:Fm):Prop where
 err:f.err=0
 abj:f.abj 536870912=true
structure Qf (p:cJ) (c:cY):Prop where
 abh:p.abh=c.abh.map qw
 vars:p.eu.vars=(c.abh.length:Int)
 abk:p.eu.abk=(c.abk.length:Int)
 ctx:iu c.abh
 nv:c.abh.length<=16
 nh:c.abk.length<=16
 known:p.known.length=c.abk.length
 hyp:∀(i:Nat) (x:cP) (h:Fm),p.known[i]?=some x->c.abk[i]?=some h->Hy x.cK/\0<=x.vars/\x.vars<=c.abh.length/\h=x.cK.up 0 (c.abh.length-x.vars)
def Qf.with{p:cJ}{c:cY}(h:Qf p c){f:Fm}(m:Hy f)(hn:c.abk.length+1<=16):∃j d,eo p f=some j/\fk c f=some d/\Qf j d/\d.lemmas=c.lemmas/\d.abh=c.abh/\d.abk=c.abk++[f]:=by
 unfold eo fk;have k:=h.known;rw[dK (by simp;omega),cL,dK (by simp;omega),cL];refine⟨_,_,rfl,rfl,⟨h.abh,h.vars,?_,h.ctx,h.nv,?_,?_,?_⟩,rfl,rfl,by simp only[eW]⟩
 ·show dB .i64 p.eu.abk 1=_;rw[h.abk,dJ (by have:=h.nh;omega) (by have:=h.nh;omega),eW];simp
 ·show(fp c.abk [f]).length<=16;rw[eW];simpa using hn
 ·show(fp p.known _).length=(fp c.abk [f]).length;simp[eW,k]
 ·intro i x g b a
  have b:(p.known++[cP.mk f p.eu.vars])[i]?=some x:=by rw[<-eW];exact b
  have a:(c.abk++[f])[i]?=some g:=by rw[<-eW];exact a
  rcases p4 i c.abk.length with e|hge
  ·rw[rf (by omega)] at b;rw[rf e] at a;exact h.hyp i x g b a
  ·have hi:i=c.abk.length:=by
    have:=(oM.1 a).1;simp at this;omega
   subst hi;rw[vu (by omega),k,WS] at b;rw[vu (by omega),WS] at a;have n:cP.mk f p.eu.vars=x:=gk b;have o:f=g:=gk a;subst n;subst o;have l:=h.vars;refine⟨m,by show 0<=p.eu.vars;omega,by show p.eu.vars<=_;exact Int.le_of_eq l,?_⟩;show f=f.up 0 (c.abh.length-p.eu.vars);rw[l,Int.sub_self];exact(Fm.oE f).symm
def iu.append{g l:List Ty}(h:iu g)(a:iu l):iu (g++l):=λs hs=>(qW.1 hs).elim (h s) (a s)
def AP{g l:List Ty}(a:iu l)(b:g.length+l.length<=900000):eG (g.map qw) l=some ((g++l).map qw):=by
 unfold eG;rw[rV a (by omega),cz,dK (by simp;omega),cL,eW,Tz]
def Qf.below{p:cJ}{c:cY}(h:Qf p c){l:List Ty}(k:iu l)(hn:c.abh.length+l.length<=16)(n:∀f∈c.abk,f.err=0/\f.abj 1000000000=true):∃m b,eg p l=some m/\ee c l=some b/\Qf m b/\b.lemmas=c.lemmas/\b.abh=c.abh++l/\b.abk=c.abk.map (Fm.up 0 l.length):=by
 have o:=h.nh
 have q:eg p l=some (cJ.mk (dw.mk (p.eu.vars+l.length) p.eu.abk) ((c.abh++l).map qw) p.known):=by
  unfold eg;rw[h.abh,AP k (by omega),cz];have:=h.vars;rw[et,dJ (by omega) (by omega)]
 have r:ee c l=some (cY.mk c.lemmas (c.abh++l) (c.abk.map (Fm.up 0 l.length))):=by
  unfold ee;simp only[cT]
  rw[dK (by omega),cL,cW (by omega),cL,gZ (Fm.up 0 l.length) c.abk 0 [] (by simp;omega) (λj x v s t=>by
   obtain⟨q1,u⟩:=n x s;obtain⟨w,y⟩:=Fm.fj q1
   rw[et,Bu FU x 0 l.length (by rw[dP];omega) (by omega) (by omega) (by omega) (by omega) (by omega) (Fm.kH x (by omega) u),cz,dK (by simpa using t),cL,eW])]
  rw[cz,cQ,eW,mI]
 refine⟨_,_,q,r,⟨rfl,?_,?_,h.ctx.append k,?_,?_,?_,?_⟩,rfl,rfl,rfl⟩
 ·show p.eu.vars+l.length=((c.abh++l).length:Int);rw[h.vars];simp
 ·show p.eu.abk=((c.abk.map (Fm.up 0 l.length)).length:Int);rw[h.abk];simp
 ·show(c.abh++l).length<=16;simpa using hn
 ·show(c.abk.map (Fm.up 0 l.length)).length<=16;simpa using h.nh
 ·show p.known.length=(c.abk.map (Fm.up 0 l.length)).length;simpa using h.known
 ·intro i x g d a;have d:p.known[i]?=some x:=d;have a:(c.abk.map (Fm.up 0 l.length))[i]?=some g:=a;rw[uZ] at a;cases e:c.abk[i]?with
  |none=>rw[e] at a;cases a
  |some g0=>
   rw[e] at a;have a:g0.up 0 l.length=g:=gk a;obtain⟨a1,a2,a3,a4⟩:=h.hyp i x g0 d e;refine⟨a1,a2,?_,?_⟩
   ·show x.vars<=((c.abh++l).length:Int);simp;omega
   ·show g=x.cK.up 0 (((c.abh++l).length:Int)-x.vars);rw[<-a,a4,Fm.RV _ (by omega)]
    congr 1
    simp;omega
def Qf.Kq{p:cJ}{c:cY}(h:Qf p c){i:Int}(hi:0<=i):if(c.abk.length:Int)<=i then ju p i=some (.mk 0 (.mk 0 []) [] [],false)else∃f,c_ c.abk (dX .i64 (dX .i64 (dm c.abk) 1) i)=some f/\ju p i=some (f,true):=by
 have g:=h.nh;have j:=h.known;unfold ju;rw[et,j]
 split
 ·rename_i d;rw[cG (by rw[gP];exact d)]
 ·rename_i d;rw[cB (by rw[gP];exact d),et,dW (a:=(c.abk.length:Int)) (by omega) (by omega),dW (by omega) (by omega)]
  have b:(((c.abk.length:Int)-1-i).toNat)<c.abk.length:=by omega
  have e:(c.abk.length:Int)-1-i=((((c.abk.length:Int)-1-i).toNat:Nat):Int):=by omega
  rw[e,hB,hB,na b,na (by omega)];obtain⟨a1,a2,a3,a4⟩:=h.hyp _ _ _ (na (by omega)) (na b);refine⟨_,rfl,?_⟩;obtain⟨k,m⟩:=Fm.fj a1.err;have l:=h.nv;rw[cz,h.vars,dW (by omega) (by omega),q7 k (by omega) (Fm.kH _ (by omega) a1.abj) (by omega) (by omega) (by omega) (by omega),cz,<-a4]
def Qt{t:Tm}(m:t.ok=true):yj t=some t.root:=by
 unfold yj;simp only[cT];cases t with
 |mk k i s l=>
  show(if(de k 3)=true then(cA (c_ l 0) λg=>some (de g.abd 2))else(
   if(de k 6)=true then(cA (c_ l 2) λe=>if(de e.abd 4)=true then some true else some (de e.abd 5))else(
   if(de k 9)=true then(cA (c_ l 2) λf=>if(de f.abd 7)=true then some true else some (de f.abd 8))else(
   if(ew (de k 11) true (de k 12))=true then(cA (c_ l 0) λh=>some (de h.abd 10))else some false))))=_
  unfold Tm.root
  by_cases n:k=3
  ·subst n;obtain⟨a,b,rfl⟩:=Tm.YS m;rw[cG (by decide)];simp[dk,Tm.kd,nP]
  ·rw[cB (by simpa using n)]
   by_cases o:k=6
   ·subst o;obtain⟨a,b,c,rfl⟩:=Tm.YO m;rw[cG (by decide)];simp only[gu,kf,gz,cz,Tm.kd,eH]
    by_cases j:c.abd=4
    ·simp[j]
    ·simp[j,nP]<;>exact G8.2 Iff.rfl
   ·rw[cB (by simpa using o)]
    by_cases p:k=9
    ·subst p;obtain⟨a,b,c,rfl⟩:=Tm.Y4 m;rw[cG (by decide)];simp only[gu,kf,gz,cz,Tm.kd,eH]
     by_cases j:c.abd=7
     ·simp[j]
     ·simp[j,nP]<;>exact G8.2 Iff.rfl
    ·rw[cB (by simpa using p)]
     by_cases d:k=11\/k=12
     ·obtain⟨a,rfl⟩:=Tm.QJ d m;rw[cG (by rcases d with rfl|rfl<;>rfl)];simp only[dk,gz,cz,Tm.kd];rcases d with rfl|rfl<;>simp[nP]<;>exact G8.2 Iff.rfl
     ·rw[cB (by simp only[jN,ni,eH];exact d)];simp only[not_or] at d;simp[n,o,p,d.1,d.2]
def vn{t:Tm}(h:t.abf<=1000000000):ep FU t=some (t.abf:Int):=lR FU t (by rw[dP];exact h) h
def Ml{t:Tm}(o:t.ok=true)(hn:t.abf<=8192)(f:t.root=true):uL t=some ((t.dN.abf:Int)-(t.abf:Int)):=by
 have j:=Tm.CM o f;have p:=hn;unfold uL;rw[vn (by omega)];simp only[cz];cases j with
 |app=>
  rename_i i s c d b a;have l:=Tm.dp (Tm.dp o (.mk 2 c d [b]) (by simp)) b (by simp);rw[Tm.cI] at hn;simp only[cX,Tm.cI] at hn;rw[cG (by rfl)];simp only[Tm.cZ,dk,eD,gz,kf,cz];rw[vn (t:=b) (by omega),vn (t:=a) (by omega),vq FU b 0 (by rw[dP];omega) (by omega) (by omega) (by omega)];simp only[cz];have q:=Tm.gH b 0;have hmul:b.abl 0*a.abf<=8192*8192:=W9 (by omega) (by omega);have r:=Tm.oW a b 0 l;have u:=a.dg
  have e:(Tm.mk 3 i s [.mk 2 c d [b],a]).dN=Tm.ia 0 b a:=by simp[Tm.dN]
  rw[e]
  have hint:(b.abl 0:Int)*((a.abf:Int)-1)=((b.abl 0*a.abf:Nat):Int)-(b.abl 0:Int):=by rw[QH,EH];simp
  rw[dW (a:=(a.abf:Int)) (by omega) (by omega),wM (by rw[hint];omega) (by rw[hint];omega),hint,dJ (by omega) (by omega),dW (by omega) (by omega)]
  congr 1
  omega
 |proj m=>
  rename_i k i s c d a b;rw[Tm.cI] at hn;simp only[cX,Tm.cI] at hn;rcases m with rfl|rfl
  ·rw[cB (by simp),cB (by simp),cB (by simp),cG (by rfl)];simp only[Tm.cZ,dk,eD,gz,kf,cz];rw[vn (t:=a) (by omega)];simp only[cz];rw[dW (by omega) (by omega)];simp[Tm.dN]
  ·rw[cB (by simp),cB (by simp),cB (by simp),cB (by simp)];simp only[Tm.cZ,dk,eD,gz,kf,cz];rw[vn (t:=b) (by omega)];simp only[cz];rw[dW (by omega) (by omega)];simp[Tm.dN]
 |zero m=>
  rename_i k v i s c d b st;rw[Tm.cI] at hn;simp only[cX,Tm.cI] at hn
  have g:k≠3/\k≠11/\k≠12:=by omega
  have:(Tm.mk k i s [b,st,.mk v c d []]).dN=b:=by simp[Tm.dN,g.1,g.2.1,g.2.2]
  rw[this];rcases m with⟨rfl,rfl⟩|⟨rfl,rfl⟩
  ·rw[cB (by simp),cG (by rfl)];simp only[Tm.cZ,dk,eD,gu,gz,kf,cz];rw[cG (by rfl),vn (t:=b) (by omega)];simp only[cz];rw[dW (by omega) (by omega)]
  ·rw[cB (by simp),cB (by simp),cG (by rfl)];simp only[Tm.cZ,dk,eD,gu,gz,kf,cz];rw[cG (by rfl),vn (t:=b) (by omega)];simp only[cz];rw[dW (by omega) (by omega)]
 |succ=>
  rename_i i s c d b st n
  have e:(Tm.mk 6 i s [b,st,.mk 5 c d [n]]).dN=jl st [n,.mk 6 i s [b,st,n]]:=by simp[Tm.dN,jl]
  rw[e,mw];rw[Tm.cI] at hn|-;simp only[cX,Tm.cI,jW,tH] at hn|-;rw[cB (by simp),cG (by rfl)];simp only[Tm.cZ,dk,eD,gu,gz,kf,cz];rw[cB (by simp),vn (t:=st) (by omega),vn (t:=n) (by omega)];simp only[cz];rw[dJ (a:=2) (by omega) (by omega),dJ (b:=(n.abf:Int)) (by omega) (by omega),dJ (by omega) (by omega),dW (b:=1) (by omega) (by omega),dW (by omega) (by omega)]
  congr 1
  omega
 |cons=>
  rename_i i s c d b st h n
  have e:(Tm.mk 9 i s [b,st,.mk 8 c d [h,n]]).dN=jl st [h,n,.mk 9 i s [b,st,n]]:=by simp[Tm.dN,jl]
  rw[e,mw];rw[Tm.cI] at hn|-;simp only[cX,Tm.cI,jW,tH] at hn|-;rw[cB (by simp),cB (by simp),cG (by rfl)];simp only[Tm.cZ,dk,eD,gu,gz,kf,cz];rw[cB (by simp),vn (t:=st) (by omega),vn (t:=h) (by omega),vn (t:=n) (by omega)];simp only[cz];rw[dJ (a:=3) (by omega) (by omega),dJ (b:=(h.abf:Int)) (by omega) (by omega),dJ (b:=(n.abf:Int)) (by omega) (by omega),dJ (by omega) (by omega),dW (b:=1) (by omega) (by omega),dW (b:=(h.abf:Int)) (by omega) (by omega),dW (by omega) (by omega)]
  congr 1
  omega
def Ka{M:Int}(o:0<=M/\M<=1000000000000){t:Tm}(hs:Sm M t)(hn:t.abf<=8192)(c:t.root=true):tG t=some t.dN:=by
 have j:=hs.ok;have l:=Tm.CM j c;have hw:=Tm.hZ t j;unfold tG;cases l with
 |app=>
  rename_i i s e f b a;have d:=(hs.arg (.mk 2 e f [b]) (by simp)).arg b (by simp);have g:=hs.arg a (by simp);have p:=d.abf;have q:=g.abf;rw[cG (by rfl)];simp only[Tm.cZ,dk,eD,gz,kf,cz];rw[Bt FU b 0 0 a (by rw[dP];omega) (by omega) (by omega) (by omega) (by omega) (d.mono o.2).abj d.ok (by omega) (g.mono o.2).abj];simp[Tm.dN]
 |proj m=>
  rename_i k i s e f a b;rcases m with rfl|rfl
  ·rw[cB (by simp),cB (by simp),cB (by simp),cG (by rfl)];simp[Tm.dN,dk]
  ·rw[cB (by simp),cB (by simp),cB (by simp),cB (by simp)];simp[Tm.dN,dk,eD]
 |zero m=>
  rename_i k r i s e f b st;rcases m with⟨rfl,rfl⟩|⟨rfl,rfl⟩
  ·rw[cB (by simp),cG (by rfl)];simp[Tm.dN,dk,gu,de]
  ·rw[cB (by simp),cB (by simp),cG (by rfl)];simp[Tm.dN,dk,gu,de]
 |succ=>
  rename_i i s e f b st n;have hi:i=0:=(Tm.jQ j).2.2.1 (by decide);subst hi;rw[Tm.gh] at hw;simp only[cX,Tm.gh] at hw;rw[cB (by simp),cG (by rfl)];simp only[Tm.cZ,dk,eD,gu,gz,kf,cz,Tm.dI];rw[cB (by simp),sH (by omega) (by omega)];simp only[cz];rw[ze (by omega) (by omega) (by omega) (by omega)];simp only[cz];rw[nB _ _ (by simp only[cX,Tm.gh,Ty.z,Ty.cI];omega)];simp[Tm.dN,jl,Ty.z]
 |cons=>
  rename_i i s e f b st h n;have hi:i=0:=(Tm.jQ j).2.2.1 (by decide);subst hi;rw[Tm.gh] at hw;simp only[cX,Tm.gh] at hw;rw[cB (by simp),cB (by simp),cG (by rfl)];simp only[Tm.cZ,dk,eD,gu,gz,kf,cz,Tm.dI];rw[cB (by simp),sH (by omega) (by omega)];simp only[cz];rw[nB _ _ (by simp only[cX,Tm.gh,Ty.z,Ty.cI];omega)];simp only[cz];rw[ze (by omega) (by omega) (by omega) (by omega)];simp only[cz];rw[nB _ _ (by simp only[cX,Tm.gh,Ty.z,Ty.cI];omega)];simp[Tm.dN,jl,Ty.z]
def TB(t:Tm)(o:Option (Option Tm))(r:Tm×Bool×Bool):Prop:=
 match o with
 |none=>r.2.1=true/\r.2.2=false|some none=>r=(t,false,true)|some (some a)=>r=(a,true,true)
def K2{M:Int}(C:0<=M/\M<=1000000000000)(room:Int):∀(n:Nat) (t:Tm),t.abf<=n->Sm M t->t.abf<=8192->∃r,qe n t room=some r/\TB t (t.Dk room) r
 |0,t,hn,_,_=>by have:=t.dg;omega
 |n+1,.mk k i s l,hn,hs,B=>by
  rw[qe,Qt hs.ok];simp only[cz];rw[Tm.yc]
  by_cases p:(Tm.mk k i s l).root=true
  ·rw[cG p,cG p,Ml hs.ok B p];simp only[cz,eO]
   by_cases hg:((Tm.mk k i s l).dN.abf:Int)-((Tm.mk k i s l).abf:Int)>room
   ·rw[cG hg,cG hg];exact⟨_,rfl,rfl,rfl⟩
   ·rw[cB hg,cB hg,Ka C hs B p];exact⟨_,rfl,rfl⟩
  ·rw[cB p,cB p];rw[Tm.cI] at hn B;have hlen:=Tm.N2 hs.ok;simp only[Tm.cZ,cT,cW (l:=l) (by omega),cL,Tm.df,Tm.eE,Tm.dI]
   have key:∀(ts pre:List Tm),l=pre++ts->∃o,dH (λ(a:Int) (v:Tm)=>(λ(_:Unit)=>
     gd (qe n v room) λw x y=>
     if x=true then(
     fh (vA l)<|cA (c_ l a) λD=>
     some (eA.ret ((Tm.mk k i s (yH l a w)),true,y)))
     else(some (.next ())))) ts pre.length ()=some o/\(match Tm.pU room ts with
      |none=>∃r:Tm×Bool×Bool,o=.inr r/\r.2.1=true/\r.2.2=false|some none=>o=.inl ()|some (some g)=>o=.inr (Tm.mk k i s (pre++g),true,true)):=by
    intro ts
    induction ts with
    |nil=>intro pre _;exact⟨_,rfl,by rw[Tm.pU]⟩|cons t ts E=>
     intro pre z
     have h:t∈l:=by rw[z];simp
     have F:=da Tm.abf h;obtain⟨⟨u,b,c⟩,G,j⟩:=K2 C room n t (by omega) (hs.arg t h) (by omega);rw[dC];simp only[G,mz]
     have d:c_ l ((pre.length:Nat):Int)=some t:=by
      unfold c_;rw[cG (by omega)];rw[z];simp
     have fu:yH l ((pre.length:Nat):Int) u=pre++u::ts:=by
      unfold yH;rw[z,BM,CN]
     have f:vA l=true:=by
      unfold vA MG;have:0<l.length:=List.length_pos_of_mem h;exact sw (by omega)
     rw[Tm.pU];unfold TB at j;cases e:t.Dk room with
     |none=>
      rw[e] at j;obtain⟨q1,A⟩:=j;simp only at q1 A;rw[cG q1,f,cL,d];exact⟨_,rfl,_,rfl,rfl,A⟩
     |some o=>
      cases o with
      |none=>
       rw[e] at j;obtain⟨rfl,q⟩:=gL j;obtain⟨rfl,rfl⟩:=gL q;rw[cB (by decide)];simp only[cz,dL];obtain⟨o,o1,o2⟩:=E (pre++[u]) (by rw[z];simp);rw[pJ] at o1;refine⟨o,o1,?_⟩;cases m:Tm.pU room ts with
       |none=>rw[m] at o2;exact o2
       |some q=>
        cases q with
        |none=>rw[m] at o2;exact o2
        |some g=>rw[m] at o2;simpa using o2
      |some H=>
       rw[e] at j;obtain⟨rfl,q⟩:=gL j;obtain⟨rfl,rfl⟩:=gL q;rw[cG rfl,f,cL,d];simp only[cz,fu];exact⟨_,rfl,rfl⟩
   obtain⟨o,o1,o2⟩:=key l [] rfl;rw[show(([]:List Tm).length)=0 from rfl] at o1;rw[o1];cases m:Tm.pU room l with
   |none=>
    rw[m] at o2;obtain⟨r,rfl,q1,A⟩:=o2;exact⟨r,rfl,q1,A⟩
   |some q=>
    cases q with
    |none=>rw[m] at o2;subst o2;exact⟨_,rfl,rfl⟩
    |some g=>rw[m] at o2;subst o2;exact⟨_,rfl,rfl⟩
def qd{t:Tm}(h:t.err=0):t.ok=true/\t.abf<=4096:=Tm.fj h
def yV(steps:Int)(z:0<=steps/\steps<=65536):∀(k:Nat) (m:Int) (t:Tm) (N:Nat),(k:Int)=steps-m->0<=m->Sm (536870912+8192*m) t->t.abf<=4096->k<N->lu ((M4 λ(d:Int) (f:Int) (g:Int) (i:Int) (j:List Ty) (l:List Tm)=>
   cA (ep FU (Tm.mk f g (Ty.mk i j) l)) λr=>
   gd (qe FU (Tm.mk f g (Ty.mk i j) l) (dX .i64 4096 r)) λa s v=>
   if s=true then(
   if(de d steps)=true then(
   some (.ret ((Tm.mk 0 0 (Ty.mk 0 []) []),0,5)))
   else(if v=true then(
   some (.next ((dB .i64 d 1),a.abd,a.abg,a.cD.abd,a.cD.abe,a.abe)))
   else(some (.ret ((Tm.mk 0 0 (Ty.mk 0 []) []),0,4)))))
   else(cA (gY FU (Tm.mk f g (Ty.mk i j) l)) λw=>
   some (.ret (w,d,0)))):(Int×Int×Int×Int×(List Ty)×(List Tm))->(Option (eA (Int×Int×Int×Int×(List Ty)×(List Tm)) (Tm×Int×Int)))) N (m,t.abd,t.abg,t.cD.abd,t.cD.abe,t.abe)=some (.inr (t.norm k m))
 |k,m,t,0,_,_,_,_,A=>by omega|k,m,t,N+1,C,hm,hs,hn,A=>by
  rw[lE];simp only[yn,RY];have hw:=Tm.hZ t hs.ok;rw[vn (by omega)];simp only[cz];rw[dW (by omega) (by omega)];obtain⟨⟨u,b,c⟩,B,n⟩:=K2 (M:=536870912+8192*m) (by omega) (4096-t.abf) FU t (by rw[dP];omega) hs (by omega);rw[B];simp only[mz];unfold TB at n;cases e:t.Dk (4096-t.abf)with
  |none=>
   rw[e] at n;obtain⟨q1,y⟩:=n;simp only at q1 y;rw[cG q1];cases k with
   |zero=>
    have p:¬t.nf=true:=by
     intro h;rw[(v8 _ t).1 h] at e;cases e
    rw[cG (by simp[de];omega),Tm.norm,cB p];rfl
   |succ k=>
    rw[cB (by simp[de];omega),cB (by rw[y];decide),Ii e];rfl
  |some o=>
   cases o with
   |none=>
    rw[e] at n;obtain⟨rfl,q⟩:=gL n;obtain⟨rfl,rfl⟩:=gL q;rw[cB (by decide),k_ (by omega)];cases k with
    |zero=>rw[Tm.norm,cG ((v8 _ _).2 e)];rfl|succ k=>rw[wT e];rfl
   |some D=>
    rw[e] at n;obtain⟨rfl,q⟩:=gL n;obtain⟨rfl,rfl⟩:=gL q;rw[cG rfl];cases k with
    |zero=>
     have p:¬t.nf=true:=by
      intro h;rw[(v8 _ t).1 h] at e;cases e
     rw[cG (by simp[de];omega),Tm.norm,cB p];rfl
    |succ k=>
     obtain⟨s1,s2,E⟩:=Hd (M:=536870912+8192*m) (by omega) t hs (by omega) _ e;rw[cB (by simp[de];omega),cG rfl,wS e,dJ (by omega) (by omega)];have x:Sm (536870912+8192*(m+1)) u:=⟨s1,by rw[show 536870912+8192*(m+1)=536870912+8192*m+8192 by omega];exact s2,by omega⟩;exact yV steps z k (m+1) u N (by omega) (by omega) x (by omega) (by omega)
def Fz:∀(k:Nat) (m:Int) (t p:Tm) (n e:Int),t.norm k m=(p,n,e)->e≠0->p=Tm.z
 |0,m,t,p,n,e,h,he=>by
  rw[Tm.norm] at h
  split at h
  ·obtain⟨_,h⟩:=gL h;obtain⟨_,h⟩:=gL h;exact absurd h.symm he
  ·exact(gL h).1.symm
 |k+1,m,t,p,n,e,h,he=>by
  rw[Tm.norm] at h
  split at h
  ·exact(gL h).1.symm
  ·obtain⟨_,h⟩:=gL h;obtain⟨_,h⟩:=gL h;exact absurd h.symm he
  ·exact Fz k _ _ _ _ _ h he
def vP{t:Tm}(hw:t.wt<=1000000)(steps:Int):∃p m e,iU t steps=some (p,m,e)/\mf t steps=some (p,m,e)/\p.wt<=1000000000:=by
 have i:=t.gj
 have c:Tm.z.wt<=1000000000:=by decide
 have a:=uu (t:=t) (by omega) steps;unfold mf;rw[kz (by omega)];simp only[cz]
 by_cases he:t.err=0
 ·obtain⟨j,hn⟩:=qd he;rw[cG he] at a;rw[cB (by simp[dr,he])];simp only[cT,lL,eO]
  by_cases a1:steps<0
  ·rw[cB (by omega)] at a;rw[cG a1,cG trivial];exact⟨_,_,_,a,rfl,c⟩
  ·rw[cB a1]
   by_cases a2:steps>65536
   ·rw[cB (by omega)] at a;rw[cG a2,cG trivial];exact⟨_,_,_,a,rfl,c⟩
   ·rw[cB a2,rX FU t 536870912 (by rw[dP];omega) (by omega)];simp only[cz]
    by_cases b:t.abj 536870912=true
    ·rw[cG ⟨by omega,by omega,b⟩] at a;have hs:Sm 536870912 t:=⟨j,b,by omega⟩;rw[b,cB (by decide),yV steps (by omega) steps.toNat 0 t FU (by omega) (by omega) hs (by omega) (by rw[dP];omega)];generalize d:t.norm steps.toNat 0=o at a;obtain⟨p,m,e⟩:=o;refine⟨p,m,e,a,rfl,?_⟩;have f:=yC steps.toNat 0 t
     by_cases g:e=0
     ·subst g;obtain⟨q1,k⟩:=Cg _ 536870912 _ _ _ _ (by omega) hs hn d;have:=Tm.hZ p q1.ok;omega
     ·rw[Fz _ _ _ _ _ _ d g];exact c
    ·rw[cB (λh=>b h.2.2)] at a;rw[cG (by rw[Bool.not_eq_true] at b;rw[b];rfl)];exact⟨_,_,_,a,rfl,c⟩
 ·rw[cB he] at a;rw[cG (by simp[dr,he])];exact⟨_,_,_,a,rfl,c⟩
def FE{a b:Tm}(c:a.wt<=1000000000):∃r,oR a b=some r/\iv FU a b=some r:=by
 obtain⟨r,d,e⟩:=tI (b:=b) c;obtain⟨q,q1,f⟩:=xI FU a b (by rw[dP];exact c) c
 have:r=q:=by rw[yU,e,f]
 subst this;exact⟨r,d,q1⟩
def J6{a b:Tm}(l:a.wt<=1000000)(o:b.wt<=1000000)(steps:Int):∃c,jF a b steps=some c/\sR a b steps=some c:=by
 unfold jF sR;rw[m0 (by omega),m0 (t:=b) (by omega),kz (by omega),kz (t:=b) (by omega)];simp only[cz]
 by_cases d:dr a.err 0=true
 ·rw[cG d,cG d];exact⟨_,rfl,rfl⟩
 ·rw[cB d,cB d]
  by_cases g:dr b.err 0=true
  ·rw[cG g,cG g];exact⟨_,rfl,rfl⟩
  ·rw[cB g,cB g];obtain⟨r,u,v⟩:=FE (a:=a) (b:=b) (by omega);rw[u,v];simp only[cz]
   by_cases h:r=true
   ·rw[cG h,cG h];exact⟨_,rfl,rfl⟩
   ·rw[cB h,cB h];obtain⟨p,m,e,w,x,y⟩:=vP l steps;obtain⟨q,n,f,q1,z,A⟩:=vP o steps;rw[w,x,q1,z];simp only[mz]
    by_cases i:dr e 0=true
    ·rw[cG i,cG i];exact⟨_,rfl,rfl⟩
    ·rw[cB i,cB i]
     by_cases j:dr f 0=true
     ·rw[cG j,cG j];exact⟨_,rfl,rfl⟩
     ·rw[cB j,cB j];obtain⟨s,s1,s2⟩:=FE (a:=p) (b:=q) y;rw[s1,s2];simp only[cz]
      by_cases k:s=true
      ·rw[cG k];exact⟨_,rfl,rfl⟩
      ·rw[cB k];exact⟨_,rfl,rfl⟩
def zY{α:Type}{E E':α->α->Option Int}{M:List α}:∀(l:List α) (i:Nat),(∀x∈l,∀y∈M,∃c,E x y=some c/\E' x y=some c)->i+l.length<=M.length->∃o,dH (λ(d:Int) (e:α)=>(λ(_:Unit)=>cA (c_ M d) λb=>cA (E e b) λa=>if(dr a 0)=true then(some (.ret a))else(some ((.next ()):eA Unit Int)))) l i ()=some o/\dH (λ(d:Int) (e:α)=>(λ(_:Unit)=>cA (c_ M d) λb=>cA (E' e b) λa=>if(dr a 0)=true then(some (.ret a))else(some ((.next ()):eA Unit Int)))) l i ()=some o
 |[],i,_,_=>⟨.inl (),by simp,by simp⟩|x::l,i,h,g=>by
  simp only[jW] at g;obtain⟨c,j,k⟩:=h x (by simp) M[i] (BT (by omega));rw[dC,dC,hB,na (by omega)];simp only[cz,j,k]
  by_cases f:dr c 0=true
  ·rw[cG f];exact⟨.inr c,rfl,rfl⟩
  ·rw[cB f];simp only[cz,dL];exact zY l (i+1) (λy hy=>h y (by simp[hy])) (by omega)
def Fm.shape{k:Int}{s f:Ty}{ts us:List Tm}{l m:List Fm}(h:(Fm.mk k s ts l).ok=true)(d:(Fm.mk k f us m).ok=true):ts.length=us.length/\l.length=m.length:=by
 rw[Fm.fa] at h d;simp only[eJ] at h d;have c:=h.1.1;have a:=d.1.1;unfold Fm.node at c a
 split at c
 ·rename_i e;rw[cG e] at a;simp only[eJ,kR] at c a;omega
 ·rename_i e;rw[cB e] at a
  split at c
  ·rename_i b;rw[cG b] at a;simp only[eJ,kR] at c a;omega
  ·rename_i b;rw[cB b] at a;simp only[eJ,kR] at c a;omega
def Kf:∀(n:Nat) (a b:Fm),a.wt<=n->a.wt<=1000000->b.wt<=1000000->a.ok=true->b.ok=true->∃c,hE n a b=some c/\qP n a b=some c:=by
 intro n
 induction n with
 |zero=>intro t b h;have:=t.gU;omega
 |succ n w=>
  intro a b h z g p d;cases a with
  |mk k s ts l=>
  cases b with
  |mk k' A us m=>
   rw[Fm.gh] at h z g;have D:=Fm.lQ l;have B:=Tm.lQ ts;rw[hE,qP];simp only[Fm.cZ,Fm.df,Fm.fv,Fm.dI,cT,cW (l:=l) (by omega),cW (l:=ts) (by omega),cL,cR]
   by_cases e:k≠k'
   ·rw[cG e,cG e];exact⟨11,rfl,rfl⟩
   ·rw[cB e,cB e,m4 (by omega),gl (by omega)];simp only[cz];have i:k=k':=wy.1 e;subst i;obtain⟨s1,s2⟩:=Fm.shape p d;obtain⟨_,F,ol⟩:=Fm.oB p;obtain⟨_,C,j⟩:=Fm.oB d;cases s.jA A with
    |false=>exact⟨11,rfl,rfl⟩|true=>
     obtain⟨o,q,k2⟩:=zY (E:=λx y=>jF x y 1000) (E':=λx y=>sR x y 1000) (M:=us) ts 0 (λx f y hy=>J6 (by have:=da Tm.wt f;omega) (by have:=da Tm.wt hy;omega) 1000) (by omega);simp only[cR] at q k2;rw[cB (by decide),cB (by decide),q,k2];cases o with
     |inr r=>exact⟨r,rfl,rfl⟩|inl u=>
      simp only[cz,cQ];obtain⟨o,q1,v⟩:=zY (E:=λx y=>hE n x y) (E':=λx y=>qP n x y) (M:=m) l 0 (λx f y hy=>w x y (by have:=da Fm.wt f;omega) (by have:=da Fm.wt f;omega) (by have:=da Fm.wt hy;omega) (ol x f) (j y hy)) (by omega);simp only[cR] at q1 v;rw[q1,v];cases o with
      |inr r=>exact⟨r,rfl,rfl⟩|inl u=>exact⟨0,rfl,rfl⟩
def x'{a b:Fm}(f:a.wt<=1000000000)(g:b.wt<=1000000000):∃c,gB a b=some c/\pk a b=some c:=by
 unfold gB pk;rw[jy f,jy g,kx f,kx g];simp only[cz,cR]
 by_cases d:a.err≠0
 ·rw[cG d,cG d];exact⟨_,rfl,rfl⟩
 ·rw[cB d,cB d]
  by_cases e:b.err≠0
  ·rw[cG e,cG e];exact⟨_,rfl,rfl⟩
  ·rw[cB e,cB e];obtain⟨o1,n1⟩:=Fm.fj (wy.1 d);obtain⟨o2,n2⟩:=Fm.fj (wy.1 e);have j:=a.hZ o1;have k:=b.hZ o2;obtain⟨c,h,i⟩:=Kf FU a b (by rw[dP];omega) (by omega) (by omega) o1 o2;rw[h,i];exact⟨c,rfl,rfl⟩
def Bc{g:List Ty}{x:Tm}{t:Ty}(h:dF g x t)(hg:iu g)(a:g.length+x.abf<=1000000):x.ty g=(t,0):=by
 have b:=(OP h hg).2 x.abf (hO _) a;rw[vU x.abf x (hO _) h.ok g hg a] at b;exact gk b
def Ib{g:List Ty}{x:Tm}(c:x.ok=true)(hg:iu g)(h:mP x g 1=0):dF g x .nat:=by
 unfold mP at h
 split at h
 ·cases h
 ·rename_i d
  have e:(x.ty g).1.abd=1:=by
   rcases Int.emod_two_eq (x.ty g).1.abd with _|_<;>
   ·by_cases a:(x.ty g).1.abd=1
    ·exact a
    ·exact absurd ⟨h,a⟩ d
  obtain⟨b,f⟩:=ov _ x (hO _) c g hg _ (uc h);rw[(se f).1 e] at b;exact b
def HE{g:List Ty}{x:Tm}(h:dF g x .nat)(hg:iu g)(a:g.length+x.abf<=1000000):mP x g 1=0:=by
 unfold mP;rw[Bc h hg a];exact cB (λh=>h.2 rfl)
def qa(f:Fm)(o:f.ok=true):∀g,iu g->f.sD g=0->iy g f:=by
 refine Fm.mx (p:=λf=>∀g,iu g->f.sD g=0->iy g f) ?_ ?_ ?_ f o
 ·intro a b j n g hg h;rw[Fm.q3] at h
  by_cases c:mP a g 1=0
  ·by_cases e:mP b g 1=0
   ·exact .eq (Ib j hg c) (Ib n hg e)
   ·simp[dQ,c,e] at h
  ·simp[dQ,c] at h
 ·intro k a b i j n d l g hg h
  have m:i_ k=false:=by rcases i with rfl|rfl<;>rfl
  rw[Fm.q3,m] at h;simp only[TA,dQ,mi,if_true,qJ,lG] at h
  by_cases c:a.sD g=0
  ·rw[cG c] at h
   by_cases e:b.sD g=0
   ·exact .two i (d g hg c) (l g hg e)
   ·rw[cB e] at h;exact absurd h e
  ·rw[cB c] at h;exact absurd h c
 ·intro k s a i hs j d g hg h
  have m:i_ k=true:=by rcases i with rfl|rfl|rfl|rfl<;>rfl
  rw[Fm.q3,m] at h;simp only[TA,dQ,mi,if_true] at h
  by_cases c:a.sD (g++[s])=0
  ·exact .q i hs (d _ (hg.app hs) c)
  ·rw[cB c] at h;exact absurd h c
def ri{g:List Ty}{f:Fm}(h:iy g f):iu g->g.length+f.abf<=1000000->f.sD g=0:=by
 induction h with
 |eq l m=>
  intro hg c;rw[Fm.cI] at c;simp only[cX] at c;rw[Fm.q3];simp[dQ,HE l hg (by omega),HE m hg (by omega)]
 |two d _ _ e i=>
  intro hg c;rw[Fm.cI] at c;simp only[cX] at c;rename_i k a b _ _
  have j:i_ k=false:=by rcases d with rfl|rfl<;>rfl
  rw[Fm.q3,j];simp[dQ,e hg (by omega),i hg (by omega)]
 |q d hs _ n=>
  intro hg c;rw[Fm.cI] at c;simp only[cX] at c;rename_i k s a _
  have j:i_ k=true:=by rcases d with rfl|rfl|rfl|rfl<;>rfl
  rw[Fm.q3,j];simp[dQ,n (hg.app hs) (by simp;omega)]
def iy.up{g:List Ty}{f:Fm}(h:iy g f):∀g1 g2 e:List Ty,g=g1++g2->iy (g1++e++g2) (f.up g2.length e.length):=by
 induction h with
 |eq l m=>
  intro g1 g2 e hg;rw[Fm.fX];exact .eq (l.up g1 g2 e hg) (m.up g1 g2 e hg)
 |two c _ _ d i=>
  intro g1 g2 e hg;rename_i k a b _ _
  have j:qB k=0:=by rcases c with rfl|rfl<;>rfl
  rw[Fm.fX,j,vk];exact .two c (d g1 g2 e hg) (i g1 g2 e hg)
 |q c hs _ n=>
  intro g1 g2 e hg;rename_i k s a _
  have j:qB k=1:=by rcases c with rfl|rfl|rfl|rfl<;>rfl
  subst hg;have:=n g1 (g2++[s]) e (by rw[so]);rw[Fm.fX,j];rw[pJ,<-so] at this;exact .q c hs this
def iy.lift{g:List Ty}{f:Fm}(h:iy g f)(e:List Ty):iy (g++e) (f.up 0 e.length):=by
 have:=h.up g [] e (by simp);simpa using this
def iy.ia{g:List Ty}{f:Fm}(h:iy g f):∀(g1:List Ty) (s:Ty) (g2:List Ty) (a:Tm),g=g1++[s]++g2->dF g1 a s->iy (g1++g2) (Fm.ia g2.length f a):=by
 induction h with
 |eq j l=>
  intro g1 s g2 a hg b;rw[Fm.eZ];exact .eq (j.ia g1 s g2 a hg b) (l.ia g1 s g2 a hg b)
 |two c _ _ d e=>
  intro g1 s g2 a hg b;rename_i k x y _ _
  have i:qB k=0:=by rcases c with rfl|rfl<;>rfl
  rw[Fm.eZ,i,vk];exact .two c (d g1 s g2 a hg b) (e g1 s g2 a hg b)
 |q c hs _ m=>
  intro g1 s g2 a hg b;rename_i k n x _
  have i:qB k=1:=by rcases c with rfl|rfl|rfl|rfl<;>rfl
  subst hg;have:=m g1 s (g2++[n]) a (by simp) b;rw[Fm.eZ,i];rw[pJ,<-so] at this;exact .q c hs this
def iy.put{g:List Ty}{s:Ty}{f:Fm}(h:iy (g++[s]) f){a:Tm}(b:dF g a s):iy g (Fm.ia 0 f a):=by
 have:=h.ia g s [] a (by simp) b;simpa using this
def dF.front{g:List Ty}{x:Tm}{t:Ty}(h:dF g x t)(e:List Ty):dF (e++g) x t:=by
 induction h with
 |@var g t i c j=>
  refine .var i (by simp;omega) ?_;rw[vu (by simp;omega),<-j]
  congr 1
  simp;omega
 |lam c _ d=>exact .lam c (by rw[so];exact d)|app _ _ a b=>exact .app a b|zero=>exact .zero|succ _ d=>exact .succ d|rp c _ _ _ a b f=>exact .rp c a b f|nil=>exact .nil|cons _ _ a b=>exact .cons a b|fold c _ _ _ a b f=>exact .fold c a b f|pair c _ _ a b=>exact .pair c a b|fst _ d=>exact .fst d|snd _ d=>exact .snd d|unit=>exact .unit
def iy.front{g:List Ty}{f:Fm}(h:iy g f)(e:List Ty):iy (e++g) f:=by
 induction h with
 |eq d i=>exact .eq (d.front e) (i.front e)|two a _ _ b c=>exact .two a b c|q a hs _ j=>exact .q a hs (by rw[so];exact j)
structure Hg (g:List Ty) (f:Fm):Prop where
 err:f.err=0
 ty:iy g f
def Hg.abf{g:List Ty}{f:Fm}(h:Hg g f):f.abf<=4096:=(Fm.fj h.err).2
def Hg.ok{g:List Ty}{f:Fm}(h:Hg g f):f.ok=true:=(Fm.fj h.err).1
def Hg.abj{g:List Ty}{f:Fm}(h:Hg g f)(hg:g.length<=16){m:Int}(hm:5000<=m):f.abj m=true:=h.ty.abj m (by have:=h.abf;omega)
def Hg.hy{g:List Ty}{f:Fm}(h:Hg g f)(hg:g.length<=16):Hy f:=⟨h.err,h.abj hg (by omega)⟩
def Hg.up{g:List Ty}{f:Fm}(h:Hg g f)(l:List Ty):Hg (g++l) (f.up 0 l.length):=by
 have hn:=Fm.mA f 0 l.length;obtain⟨a,b⟩:=Fm.fj h.err;refine⟨?_,h.ty.lift l⟩;unfold Fm.err;rw[Fm.BI f 0 l.length (by omega) (by omega),a,cG rfl,hn,cB (by omega)]
structure PG (L:List Fm) (p:cJ) (c:cY):Prop where
 pl:Qf p c
 L4:c.lemmas=L
 S_:∀f∈L,Hg [] f
 abk:∀f∈c.abk,Hg c.abh f
def PG.Na{L:List Fm}{p:cJ}{c:cY}(h:PG L p c){l:List Ty}(j:iu l)(hn:c.abh.length+l.length<=16):∃d a,eg p l=some d/\ee c l=some a/\PG L d a/\a.abh=c.abh++l/\a.abk=c.abk.map (Fm.up 0 l.length):=by
 obtain⟨d,a,k,m,n,o,g,i⟩:=h.pl.below j hn (λf b=>⟨(h.abk f b).err,(h.abk f b).abj h.pl.nv (by omega)⟩);refine⟨d,a,k,m,⟨n,o.trans h.L4,h.S_,λf b=>?_⟩,g,i⟩;rw[i] at b;obtain⟨f0,e,rfl⟩:=mO.1 b;rw[g];exact(h.abk f0 e).up l
def PG.below{L:List Fm}{p:cJ}{c:cY}(h:PG L p c){s:Ty}(hs:s.err=0)(hn:c.abh.length+1<=16):∃b a,eg p [s]=some b/\ee c [s]=some a/\PG L b a/\a.abh=c.abh++[s]/\a.abk=c.abk.map (Fm.up 0 1):=
 h.Na (l:=[s]) (λx d=>by rw[xn.1 d];exact hs) hn
def PG.with{L:List Fm}{p:cJ}{c:cY}(h:PG L p c){f:Fm}(d:Hg c.abh f)(hn:c.abk.length+1<=16):∃b a,eo p f=some b/\fk c f=some a/\PG L b a/\a.abh=c.abh/\a.abk=c.abk++[f]:=by
 obtain⟨b,a,i,j,k,l,e,g⟩:=h.pl.with (d.hy h.pl.nv) hn;refine⟨b,a,i,j,⟨k,l.trans h.L4,h.S_,λx hx=>?_⟩,e,g⟩;rw[g] at hx;rw[e];rcases qW.1 hx with hx|hx
 ·exact h.abk x hx
 ·rw[xn.1 hx];exact d
def PG.room{L:List Fm}{p:cJ}{c:cY}(h:PG L p c){v k:Nat}(e:v<=100)(f:k<=100):(dq p.eu v k=some 0/\dt c v k=some 0/\c.abh.length+v<=16/\c.abk.length+k<=16)\/(dq p.eu v k=some 3/\dt c v k=some 3/\(16<c.abh.length+v\/16<c.abk.length+k)):=by
 unfold dq dt;have b:=h.pl.vars;have d:=h.pl.abk;have g:=h.pl.nv;have i:=h.pl.nh;rw[b,d,et,et,dJ (by omega) (by omega),dJ (by omega) (by omega),jN]
 by_cases a:(mV ((c.abh.length:Int)+v) 16||mV ((c.abk.length:Int)+k) 16)=true
 ·rw[cG a];simp only[ni,eO] at a;exact .inr ⟨rfl,rfl,by omega⟩
 ·rw[cB a];simp only[ni,eO,not_or] at a;exact .inl ⟨rfl,rfl,by omega,by omega⟩
def Ec.len{N:Int}:∀{l:List Int} {lo:Int},Ec l->(∀x∈l,lo<=x/\x<N)->(l.length:Int)<=max 0 (N-lo)
 |[],lo,_,_=>by simp;omega|a::l,lo,.cons c d,h=>by
  have e:=h a (by simp);have f:=Ec.len (lo:=a+1) d (λx b=>⟨by have:=c x b;omega,(h x (by simp[b])).2⟩);simp only[jW];omega
def Us.len{l:List Int}{m:Nat}(h:Us l m):l.length<=32:=by
 have:=Ec.len (N:=32) (lo:=0) h.V2 (λx a=>⟨h.pos x a,h.bound x a⟩);omega
def dF.JL{g:List Ty}{x:Tm}{t:Ty}(h:dF g x t):∀j:Int,(g.length:Int)<=j->x.abl j=0:=by
 induction h with
 |@var g t i k l=>
  intro j a;rw[Tm.eQ,cB (λh=>by have:=h.2;omega)];rfl
 |@lam g s b t k _ e=>
  intro j a;rw[Tm.eQ,cB (λh=>by cases h.1)];simp only[cX];rw[e (j+d_ 2) (by show _<=j+1;simp;omega)]
 |app _ _ c d=>intro j a;rw[Tm.eQ,cB (λh=>by cases h.1)];simp only[cX,show d_ 3=0 from rfl,vk,c j a,d j a]
 |zero=>intro j a;rw[Tm.eQ,cB (λh=>by cases h.1)];rfl
 |succ _ e=>intro j a;rw[Tm.eQ,cB (λh=>by cases h.1)];simp only[cX,show d_ 5=0 from rfl,vk,e j a]
 |rp k _ _ _ c d f=>intro j a;rw[Tm.eQ,cB (λh=>by cases h.1)];simp only[cX,show d_ 6=0 from rfl,vk,c j a,d j a,f j a]
 |nil=>intro j a;rw[Tm.eQ,cB (λh=>by cases h.1)];rfl
 |cons _ _ c d=>intro j a;rw[Tm.eQ,cB (λh=>by cases h.1)];simp only[cX,show d_ 8=0 from rfl,vk,c j a,d j a]
 |fold k _ _ _ c d f=>intro j a;rw[Tm.eQ,cB (λh=>by cases h.1)];simp only[cX,show d_ 9=0 from rfl,vk,c j a,d j a,f j a]
 |pair k _ _ c d=>intro j a;rw[Tm.eQ,cB (λh=>by cases h.1)];simp only[cX,show d_ 10=0 from rfl,vk,c j a,d j a]
 |fst _ e=>intro j a;rw[Tm.eQ,cB (λh=>by cases h.1)];simp only[cX,show d_ 11=0 from rfl,vk,e j a]
 |snd _ e=>intro j a;rw[Tm.eQ,cB (λh=>by cases h.1)];simp only[cX,show d_ 12=0 from rfl,vk,e j a]
 |unit=>intro j a;rw[Tm.eQ,cB (λh=>by cases h.1)];rfl
def fx:Fm:=.mk 0 (.mk 0 []) [] []
def Hj(k:Option (cE×Int)):Option (cE×Int):=
 cN k λa b=>
 if(dr b 0)=true then(
 some ((cE.mk (Fm.mk 0 (Ty.mk 0 []) [] []) 0),b))
 else(cA (iT a.cK) λd=>
 if(dr d 0)=true then(
 some ((cE.mk (Fm.mk 0 (Ty.mk 0 []) [] []) 0),4))
 else(db (λ(v30:Int)=>
 some ((cE.mk a.cK v30),0)) λc=>
 cN (mL a.cK) λe f=>
 if e=true then(
 c a.eS)
 else(c 0)))
def Hm(r:Option (Fm×List Int×Int)):Option (qE×Int):=
 gd r λb g f=>
 if(dr f 0)=true then(
 some ((qE.mk (Fm.mk 0 (Ty.mk 0 []) [] []) []),f))
 else(cA (jR b) λc=>
 if(dr c 0)=true then(
 some ((qE.mk (Fm.mk 0 (Ty.mk 0 []) [] []) []),4))
 else(db (λ(d:List Int)=>
 some ((qE.mk b d),0)) λa=>
 cN (qA b) λe h=>
 if e=true then(
 a g)
 else(a [])))
def y7{α:Type}{F:Int->α->Unit->Option (eA Unit Bool)}(w:α->Nat):∀(l:List α) (i:Nat),(∀j x,x∈l->F j x ()=if 0<w x then some (.ret true)else some (.next ()))->dH F l i ()=some (if 0<cX w l then .inr true else .inl ())
 |[],i,_=>rfl|x::l,i,h=>by
  have c:=y7 w l (i+1) (λj y hy=>h j y (by simp[hy]));rw[dC,h i x (by simp)]
  by_cases a:0<w x
  ·rw[cG a,cG (show 0<cX w (x::l) by simp only[cX];omega)];rfl
  ·rw[cB a];show dH F l (i+1) ()=_;rw[c]
   by_cases b:0<cX w l
   ·rw[cG b,cG (show 0<cX w (x::l) by simp only[cX];omega)]
   ·rw[cB b,cB (show¬0<cX w (x::l) by simp only[cX];omega)]
def GB:∀(n:Nat) (t:Tm) (a:Int),t.abf<=n->t.abf<=1000000000->0<=a->a+t.abf<=10000000000->wW n t a=some (decide (0<t.abl a)):=by
 intro n
 induction n with
 |zero=>intro t a h;have:=t.dg;omega
 |succ n f=>
  intro t a h d o e;cases t with
  |mk k i s l=>
   rw[Tm.cI] at h d e;have p:=Tm.dT l;have q:=fV k;rw[wW,Tm.eQ];simp only[Tm.cZ,Tm.eE,Tm.df,cT,qx,eJ,eH]
   by_cases c:k=1/\i=a
   ·rw[cG c,cG c]
    congr 1
    exact(sw (by omega)).symm
   ·rw[cB c,cB c,cW (by omega),cL,y7 (Tm.abl (a+d_ k)) l 0 (λj x g=>by
     have m:=da Tm.abf g;rw[lV,cz,Tm.df,dJ (by omega) (by omega),f x (a+d_ k) (by omega) (by omega) (by omega) (by omega),cz]
     by_cases b:0<x.abl (a+d_ k)
     ·rw[cG b,cG (sw b)]
     ·rw[cB b,cB (by simpa using b)]),cz,sy]
    by_cases b:0<cX (Tm.abl (a+d_ k)) l
    ·rw[cG b,oi,sw b]
    ·rw[cB b,cQ,Ae b]
def y_:∀(n:Nat) (t:Fm) (a:Int),t.abf<=n->t.abf<=1000000000->0<=a->a+t.abf<=10000000000->qq n t a=some (decide (0<t.abl a)):=by
 intro n
 induction n with
 |zero=>intro t a h;have:=t.dg;omega
 |succ n i=>
  intro t a h c o d;cases t with
  |mk k s ts l=>
   rw[Fm.cI] at h c d;have p:=Fm.dT l;have m:=Tm.dT ts;have q:=xz k;rw[qq,Fm.eQ];simp only[Fm.cZ,Fm.fv,cT]
   rw[cW (by omega),cL,y7 (Tm.abl a) ts 0 (λj x e=>by
    have f:=da Tm.abf e;rw[GB FU x a (by rw[dP];omega) (by omega) (by omega) (by omega),cz]
    by_cases b:0<x.abl a
    ·rw[cG b,cG (sw b)]
    ·rw[cB b,cB (by simpa using b)]),cz]
   by_cases g:0<cX (Tm.abl a) ts
   ·rw[cG g,oi,sw (by omega)]
   ·rw[cB g,cQ,cW (by omega),cL,y7 (Fm.abl (a+qB k)) l 0 (λj x e=>by
     have f:=da Fm.abf e;rw[mZ,cz,Fm.df,dJ (by omega) (by omega),i x (a+qB k) (by omega) (by omega) (by omega) (by omega),cz]
     by_cases b:0<x.abl (a+qB k)
     ·rw[cG b,cG (sw b)]
     ·rw[cB b,cB (by simpa using b)]),cz]
    by_cases b:0<cX (Fm.abl (a+qB k)) l
    ·rw[cG b,oi,sw (by omega)]
    ·rw[cB b,cQ,Ae (by omega)]
def Tm.yz(s:Tm):∀(t:Tm) (n:Int),t.ok=true->t.abl n=0->Tm.ia n t s=t.up (n+1) (-1):=by
 intro t
 induction t using Tm.ind with
 |h k i ty l g=>
  intro n d e;have hi:=Tm.jQ d;rw[Tm.eQ] at e;rw[Tm.eZ,Tm.fX]
  by_cases a:k=1
  ·subst a;obtain⟨rfl,rfl⟩:=Tm.Jo d
   have b:i≠n:=λh=>by rw[cG ⟨rfl,h⟩] at e;omega
   rw[cG rfl];unfold Tm.jI;rw[cB b]
   by_cases f:n<i
   ·rw[cG f,cG ⟨rfl,by omega⟩];rfl
   ·rw[cB f,cB (λh=>by omega)];rfl
  ·rw[cB a,cB (λh=>a h.1)]
   congr 1
   refine qo λx c=>?_;have:=da (Tm.abl (n+d_ k)) c;rw[g x c (n+d_ k) (hi.2.2.2.1 x c) (by omega),show n+d_ k+1=n+1+d_ k by omega]
def Fm.yz(s:Tm):∀(t:Fm) (n:Int),t.ok=true->t.abl n=0->Fm.ia n t s=t.up (n+1) (-1):=by
 intro t
 induction t using Fm.ind with
 |h k ty ts l b=>
  intro n c d;obtain⟨_,e,f⟩:=Fm.oB c;rw[Fm.eQ] at d;rw[Fm.eZ,Fm.fX]
  congr 1
  ·refine qo λx a=>?_;have:=da (Tm.abl n) a;exact Tm.yz s x n (e x a) (by omega)
  ·refine qo λx a=>?_;have:=da (Fm.abl (n+qB k)) a;rw[b x a (n+qB k) (f x a) (by omega),show n+qB k+1=n+1+qB k by omega]
def Gl:∀(n:Nat) (t:Tm) (f:Int),t.abf<=n->t.abf<=1000000000->0<=f->f+t.abf<=10000000000->t.abj 1000000000000=true->mJ n t f (-1)=some (t.up f (-1)):=by
 intro n
 induction n with
 |zero=>intro t f h;have:=t.dg;omega
 |succ n o=>
  intro t f h a u b hi;cases t with
  |mk k i s l=>
   rw[Tm.cI] at h a b;rw[Tm.ec] at hi;simp only[eJ,kR,jr] at hi;have w:=Tm.dT l;have y:=fV k;rw[mJ];simp only[Tm.cZ,Tm.eE,Tm.df,Tm.dI,cT,cW (l:=l) (by omega),cL];rw[gZ (Tm.up (f+d_ k) (-1)) l 0 [] (by simp;omega)]
   ·rw[Tm.fX];simp only[cz,cQ,mI,u6,Tm.mk.injEq,nC,Xh]
    by_cases c:k=1/\f<=i
    ·obtain⟨rfl,d⟩:=c;rw[dJ (by omega) (by omega)];have p:de 1 1=true:=rfl
     have q:qT i f=true:=by simp[d]
     simp[p,q,d]
    ·rw[cB c]
     have e:ew (de k 1) (qT i f) false=false:=by
      rw[qx,Hu];simp only[ne_eq,eJ,eH,gP];exact c
     rw[e];rfl
   ·intro j x v g r;have:=da Tm.abf g;rw[lV];simp only[cz,Tm.df];rw[dJ (by omega) (by omega),o x (f+d_ k) (by omega) (by omega) (by omega) (by omega) (hi.2 x g)];simp[dK (l:=v) (m:=[x.up (f+d_ k) (-1)]) (by simpa using r)]
def zd:∀(n:Nat) (t:Fm) (f:Int),t.abf<=n->t.abf<=1000000000->0<=f->f+t.abf<=10000000000->t.abj 1000000000000=true->gN n t f (-1)=some (t.up f (-1)):=by
 intro n
 induction n with
 |zero=>intro t f h;have:=t.dg;omega
 |succ n e=>
  intro t f h b g c hi;cases t with
  |mk k s ts l=>
   rw[Fm.cI] at h b c;rw[Fm.ec] at hi;simp only[eJ,jr] at hi;have o:=Fm.dT l;have i:=Tm.dT ts;have p:=xz k;rw[gN];simp only[Fm.cZ,Fm.fv,Fm.df,Fm.dI,cT,cW (l:=l) (by omega),cW (l:=ts) (by omega),cL];rw[gZ (Tm.up f (-1)) ts 0 [] (by simp;omega)]
   ·simp only[cz,cQ];rw[gZ (Fm.up (f+qB k) (-1)) l 0 [] (by simp;omega)]
    ·simp[Fm.fX]
    ·intro j x v a d;have:=da Fm.abf a;rw[mZ];simp only[cz,Fm.df];rw[dJ (by omega) (by omega),e x (f+qB k) (by omega) (by omega) (by omega) (by omega) (hi.2 x a)];simp[dK (l:=v) (m:=[x.up (f+qB k) (-1)]) (by simpa using d)]
   ·intro j x v a d;have:=da Tm.abf a;rw[Gl FU x f (by rw[dP];omega) (by omega) g (by omega) (hi.1 x a)];simp[dK (l:=v) (m:=[x.up f (-1)]) (by simpa using d)]
def Mc:DQ Tm.z:=by
 show DQ (Tm.mk 0 0 (Ty.mk 0 []) []);intro c b d;have a:FU=999999999+1:=dP;unfold oV ml;rw[a,fy,cB (show¬(de (Tm.mk 0 0 (Ty.mk 0 []) []).abd 1=true) by decide)];simp only[Tm.df,Tm.dI,Tm.cZ,Tm.eE,cT];rw[mK (by decide),cz,cW (by decide),cL];rfl
def qF{f:Fm}(a:f.ok=true)(hn:f.abf<=50000000)(b:f.abj 1000000000000=true)(c:f.abl 0=0):jn f 0 (Tm.mk 0 0 (Ty.mk 0 []) [])=some (f.up 1 (-1)):=by
 rw[show Tm.mk 0 0 (Ty.mk 0 []) []=Tm.z from rfl,r7 a hn b Mc (by omega) (by omega),Fm.yz _ f 0 a c];rfl
noncomputable def yW (x:Tm) (e:Int):Tm×Int:=if e=0 then((x.norm 1000 0).1,(x.norm 1000 0).2.2)else(x,e)
def nN{α:Type}(f:α->Int->α×Int):List α->Int->List α×Int
 |[],e=>([],e)|x::l,e=>((f x e).1::(nN f l (f x e).2).1,(nN f l (f x e).2).2)
mutual
noncomputable def Fm.uA:Fm->Int->Fm×Int
 |.mk k s ts l,e=>(.mk k s (nN yW ts e).1 (Fm.JD l (nN yW ts e).2).1,(Fm.JD l (nN yW ts e).2).2)
noncomputable def Fm.JD:List Fm->Int->List Fm×Int
 |[],e=>([],e)|f::l,e=>((f.uA e).1::(Fm.JD l (f.uA e).2).1,(Fm.JD l (f.uA e).2).2)
end
def Fm.Lo:∀(l:List Fm) (e:Int),Fm.JD l e=nN Fm.uA l e
 |[],e=>by rw[Fm.JD,nN]|f::l,e=>by rw[Fm.JD,nN,Fm.Lo l]
def Fm.AL(k:Int)(s:Ty)(ts:List Tm)(l:List Fm)(e:Int):(Fm.mk k s ts l).uA e=(.mk k s (nN yW ts e).1 (nN Fm.uA l (nN yW ts e).2).1,(nN Fm.uA l (nN yW ts e).2).2):=by rw[Fm.uA,Fm.Lo]
def rC{α:Type}{f:α->Int->α×Int}:∀(l:List α) (e:Int),(∀x∈l,∀e,e≠0->(f x e).2=e)->e≠0->(nN f l e).2=e
 |[],e,_,_=>rfl|x::l,e,h,he=>by
  have a:=h x (by simp) e he;simp only[nN];rw[a];exact rC l e (λy hy=>h y (by simp[hy])) he
def DF{x:Tm}{e:Int}(he:e≠0):(yW x e).2=e:=by unfold yW;rw[cB he]
def Fm.Ia(f:Fm):∀e:Int,e≠0->(f.uA e).2=e:=by
 induction f using Fm.ind with
 |h k s ts l a=>
  intro e he;rw[Fm.AL];have b:=rC (f:=yW) ts e (λx _ e he=>DF he) he;simp only[];rw[b];exact rC l e a he
def Ag{α ρ:Type}{E:α->Int->Option (α×Int)}{f:α->Int->α×Int}:∀(l:List α) (j:Nat) (v:List α) (e:Int),(∀x∈l,∀e,E x e=some (f x e))->v.length+l.length<=1000000000->dH (λ(k:Int) (c:α)=>(p0 λ(v91:List α) (d:Int)=>
   cN (E c d) λa b=>
   fh (eC v91 [a])<|some ((.next ((fp v91 [a]),b)):eA ((List α)×Int) ρ))) l j (v,e)=some (.inl (v++(nN f l e).1,(nN f l e).2))
 |[],j,v,e,_,_=>by simp[nN]|x::l,j,v,e,h,m=>by
  simp only[jW] at m;rw[dC];simp only[p0];rw[h x (by simp) e];obtain⟨y,g,i⟩:∃y g,f x e=(y,g):=⟨_,_,rfl⟩;rw[i];rw[cF,dK (by simp;omega),cL];simp only[cz,dL];rw[eW];have:=Ag (ρ:=ρ) l (j+1) (v++[y]) g (λz n=>h z (by simp[n])) (by simp;omega);rw[this];simp only[nN,i];simp
structure Nm (x:Tm):Prop where
 err:x.err=0
 abj:x.abj 536870912=true
def Nm.both{x:Tm}(h:Nm x):iU x 1000=some (x.norm 1000 0)/\mf x 1000=some (x.norm 1000 0):=by
 obtain⟨b,hn⟩:=qd h.err;have hw:=x.hZ b;have a:=uu (t:=x) (by omega) 1000;rw[cG h.err,cG ⟨by omega,by omega,h.abj⟩] at a;obtain⟨p,m,e,c,d,_⟩:=vP (t:=x) (by omega) 1000;have a:iU x 1000=some (x.norm 1000 0):=a;refine⟨a,?_⟩;rw[d,<-c,a]
def xk{x:Tm}(h:Nm x)(b e:Int):iI x b e=some (yW x e):=by
 unfold iI yW
 by_cases he:e=0
 ·rw[cG he,cB (by rw[cR];simpa using he),h.both.1];rfl
 ·rw[cB he,cG (by rw[cR];exact he)]
inductive LK:Fm->Prop
 |mk {k s ts l}:(∀x∈ts,Nm x)->(∀f∈l,LK f)->LK (.mk k s ts l)
def LK.of(f:Fm):f.abf<=4096->f.ok=true->f.abj 536870912=true->LK f:=by
 induction f using Fm.ind with
 |h k s ts l d=>
  intro hn e b;obtain⟨_,g,i⟩:=Fm.oB e;rw[Fm.cI] at hn;rw[Fm.ec,eJ,jr,jr] at b;refine .mk (λx c=>⟨?_,b.1 x c⟩) (λf a=>?_)
  ·have:=da Tm.abf c;unfold Tm.err;rw[cG (g x c),cB (by omega)]
  ·have:=da Fm.abf a;exact d f a (by omega) (i f a) (b.2 f a)
def Iw:∀(n:Nat) (f:Fm) (b e:Int),f.abf<=n->f.abf<=1000000->f.ok=true->LK f->dE n f b (λ(s:Int) (c:Tm) (d:Int)=>iI c d s) e=some (f.uA e):=by
 intro n
 induction n with
 |zero=>intro f b e h;have:=f.dg;omega
 |succ n m=>
  intro f b e hn o p hm;cases f with
  |mk k s ts l=>
   cases hm with
   |mk q r=>
    rw[Fm.cI] at hn o;have u:=fO Tm.abf ts λt _=>t.dg;have v:=fO Fm.abf l λt _=>t.dg;obtain⟨w,z,g⟩:=Fm.oB p;rw[dE,Fm.AL];simp only[Fm.dI,Fm.cZ,Fm.df,Fm.fv,cT];rw[mK (by omega),cz,cW (by omega),cL];rw[Ag (E:=λy s=>iI y b s) (f:=yW) ts 0 [] e (λx a e=>xk (q x a) b e) (by simp;omega),cz];simp only[cQ,p0,mI];rw[l_,cz]
    have loop:=λi=>Ag (ρ:=Fm×Int) (E:=λy s=>dE n y i (λ(s:Int) (c:Tm) (d:Int)=>iI c d s) s) (f:=Fm.uA) l 0 [] (nN yW ts e).2 (λx a e=>by
     have:=da Fm.abf a
     exact m x i e (by omega) (by omega) (g x a) (r x a)) (by simp;omega)
    by_cases j:i_ k=true
    ·rw[cG j,cW (by omega),cL,loop,cz];simp
    ·rw[cB j,cW (by omega),cL,loop,cz];simp
def Cb:∀(n:Nat) (f:Fm),f.abf<=n->f.abf<=1000000->LK f->nS n f=some (if(f.uA 0).2=0 then((f.uA 0).1,0)else(fx,(f.uA 0).2)):=by
 intro n
 induction n with
 |zero=>intro f h;have:=f.dg;omega
 |succ n H=>
  intro f hn I hm;cases f with
  |mk k s ts l=>
   cases hm with
   |mk J K=>
    rw[Fm.cI] at hn I;have L:=fO Tm.abf ts λt _=>t.dg;have M:=fO Fm.abf l λt _=>t.dg;rw[nS,Fm.AL];simp only[Fm.dI,Fm.cZ,Fm.df,Fm.fv,cT];rw[cW (by omega),cL]
    have p:∀(us:List Tm) (j:Nat) (v:List Tm),(∀t∈us,Nm t)->v.length+us.length<=1000000000->dH (λ(N:Int) (B:Tm)=>(λ(w:List Tm)=>
       gd (mf B 1000) λc E d=>
       if(dr d 0)=true then(
       some (.ret ((Fm.mk 0 (Ty.mk 0 []) [] []),d)))
       else(fh (eC w [c])<|some ((.next (fp w [c])):eA (List Tm) (Fm×Int))))) us j v=some (if(nN yW us 0).2=0 then .inl (v++(nN yW us 0).1)else .inr (fx,(nN yW us 0).2)):=by
     intro us
     induction us with
     |nil=>intro j v _ _;simp[nN]|cons t us q=>
      intro j v hm C;simp only[jW] at C;rw[dC,(hm t (by simp)).both.2]
      have D:yW t 0=((t.norm 1000 0).1,(t.norm 1000 0).2.2):=by unfold yW;rw[cG rfl]
      obtain⟨y,m,a,z⟩:∃y m a,t.norm 1000 0=(y,m,a):=⟨_,_,_,rfl⟩;rw[z] at D|-;rw[mz]
      by_cases he:a=0
      ·subst he;rw[cB (by decide),dK (by simp;omega),cL];simp only[cz,dL];rw[eW,q (j+1) (v++[y]) (λu hu=>hm u (by simp[hu])) (by simp;omega)];simp only[nN,D];simp
      ·rw[cG (by rw[cR];exact he)];simp only[nN,D];rw[rC (f:=yW) us a (λx _ e he=>DF he) he,cB he];rfl
    have r:∀(us:List Fm) (j:Nat) (v:List Fm),(∀t∈us,LK t/\t.abf<=n/\t.abf<=1000000)->v.length+us.length<=1000000000->dH (λ(F:Int) (A:Fm)=>(λ(g:List Fm)=>
       cN (nS n A) λi o=>
       if(dr o 0)=true then(
       some (.ret ((Fm.mk 0 (Ty.mk 0 []) [] []),o)))
       else(fh (eC g [i])<|some ((.next (fp g [i])):eA (List Fm) (Fm×Int))))) us j v=some (if(nN Fm.uA us 0).2=0 then .inl (v++(nN Fm.uA us 0).1)else .inr (fx,(nN Fm.uA us 0).2)):=by
     intro us
     induction us with
     |nil=>intro j v _ _;simp[nN]|cons t us q=>
      intro j v hm C;simp only[jW] at C;obtain⟨a1,a2,a3⟩:=hm t (by simp);rw[dC,H t a2 a3 a1];obtain⟨y,a,z⟩:∃y a,t.uA 0=(y,a):=⟨_,_,rfl⟩;rw[z]
      by_cases he:a=0
      ·subst he;simp only[if_true];rw[cF,cB (by decide),dK (by simp;omega),cL];simp only[cz,dL];rw[eW,q (j+1) (v++[y]) (λu hu=>hm u (by simp[hu])) (by simp;omega)];simp only[nN,z];simp
      ·simp only[cB he];rw[cF,cG (by rw[cR];exact he)];simp only[nN,z];rw[rC (f:=Fm.uA) us a (λx _ e he=>Fm.Ia x e he) he,cB he];rfl
    rw[p ts 0 [] J (by simp;omega),cz]
    by_cases he:(nN yW ts 0).2=0
    ·rw[cG he,cQ,cW (by omega),cL,r l 0 [] (λt G=>by
      have:=da Fm.abf G
      exact⟨K t G,by omega,by omega⟩) (by simp;omega),cz,he]
     by_cases b:(nN Fm.uA l 0).2=0
     ·rw[cG b,cG b,cQ,mI,mI]
     ·rw[cB b,cB b,oi]
    ·rw[cB he,oi,rC (f:=Fm.uA) l _ (λx _ e he=>Fm.Ia x e he) he,cB he]
def Ty.WW:∀(n:Nat) (s:Ty),s.abf<=n->s.err=0->∃a,dF [] a s:=by
 intro n
 induction n with
 |zero=>intro s h;have:=s.dg;omega
 |succ n c=>
  intro s hn he;rcases Ty.oS he with rfl|rfl|rfl|⟨a,b,rfl,e,d⟩|⟨a,b,rfl,e,d⟩
  ·exact⟨_,.zero⟩
  ·exact⟨_,.nil⟩
  ·exact⟨_,.unit⟩
  ·rw[Ty.rH] at hn;obtain⟨x,f⟩:=c a (by omega) e;obtain⟨y,hy⟩:=c b (by omega) d;exact⟨_,.pair he f hy⟩
  ·rw[Ty.hP] at hn;obtain⟨y,hy⟩:=c b (by omega) d;exact⟨_,.lam he (by have:=hy.front [a];simpa using this)⟩
def iy.down{g:List Ty}{s:Ty}{f:Fm}(h:iy (g++[s]) f)(hs:s.err=0)(c:f.abl 0=0):iy g (f.up 1 (-1)):=by
 obtain⟨a,d⟩:=Ty.WW _ s (hO _) hs
 have b:dF g a s:=by simpa using d.front g
 have:=h.put b
 rwa [Fm.yz a f 0 h.ok c] at this
def dF.nm{g:List Ty}{x:Tm}{t:Ty}(h:dF g x t)(hg:g.length<=1000000)(a:x.abf<=4096):Nm x:=by
 refine⟨?_,h.abj _ (by omega)⟩;unfold Tm.err;rw[cG h.ok,cB (by omega)]
def NI{g:List Ty}{x:Tm}{t:Ty}(h:dF g x t)(hg:g.length<=1000000)(b:x.abf<=4096){e:Int}(he:(yW x e).2=0):e=0/\dF g (yW x e).1 t/\(yW x e).1.abf<=4096:=by
 by_cases c:e=0
 ·subst c;unfold yW at he|-;simp only[if_true] at he|-;obtain⟨a,n,f,d⟩:∃a n f,x.norm 1000 0=(a,n,f):=⟨_,_,_,rfl⟩;rw[d] at he|-;simp only[] at he|-;subst he;exact⟨trivial,dF.norm _ _ _ _ _ h d,(Cg 1000 536870912 0 x a n (by omega) (Sm.start (h.nm hg b).err (h.nm hg b).abj) b d).2⟩
 ·rw[DF c] at he;exact absurd he c
def QF(a b:Tm)(e:Int):(Fm.mk 1 .z [a,b] []).uA e=(.mk 1 .z [(yW a e).1,(yW b (yW a e).2).1] [],(yW b (yW a e).2).2):=by rw[Fm.AL];rfl
def PQ(k:Int)(a b:Fm)(e:Int):(Fm.mk k .z [] [a,b]).uA e=(.mk k .z [] [(a.uA e).1,(b.uA (a.uA e).2).1],(b.uA (a.uA e).2).2):=by rw[Fm.AL];rfl
def XB(k:Int)(s:Ty)(a:Fm)(e:Int):(Fm.mk k s [] [a]).uA e=(.mk k s [] [(a.uA e).1],(a.uA e).2):=by rw[Fm.AL];rfl
def KP{g:List Ty}{f:Fm}(h:iy g f):∀(e:Int),g.length+f.abf<=1000000->f.abf<=4096->(f.uA e).2=0->e=0/\iy g (f.uA e).1/\(f.uA e).1.abf<=3000*f.abf:=by
 induction h with
 |@eq g a b c n=>
  intro e hg hn he;rw[QF] at he|-;rw[Fm.cI] at hn hg|-;simp only[cX] at hn hg|-;obtain⟨d,i,o⟩:=NI n (by omega) (by omega) he;obtain⟨a1,a2,a3⟩:=NI c (by omega) (by omega) d;refine⟨a1,.eq a2 i,?_⟩;rw[Fm.cI];simp only[cX];have:=a.dg;have:=b.dg;omega
 |@two g k a b j c n l m=>
  intro e hg hn he;rw[PQ] at he|-;rw[Fm.cI] at hn hg|-;simp only[cX] at hn hg|-;obtain⟨d,i,o⟩:=m _ (by omega) (by omega) he;obtain⟨a1,a2,a3⟩:=l _ (by omega) (by omega) d;refine⟨a1,.two j a2 i,?_⟩;rw[Fm.cI];simp only[cX];omega
 |@q g k s a j hs c p=>
  intro e hg hn he;rw[XB] at he|-;rw[Fm.cI] at hn hg|-;simp only[cX] at hn hg|-;obtain⟨a1,a2,a3⟩:=p _ (by simp;omega) (by omega) he;refine⟨a1,.q j hs a2,?_⟩;rw[Fm.cI];simp only[cX];omega
noncomputable def DE (f:Fm):Fm×Int:=if f.abl 0=0 then(f.up 1 (-1),0)else if(f.uA 0).2≠0 then(fx,(f.uA 0).2)else if(f.uA 0).1.abl 0≠0 then(fx,6)else((f.uA 0).1.up 1 (-1),0)
def Oa{g:List Ty}{s:Ty}{f:Fm}(h:Hg (g++[s]) f)(hg:g.length<=1000)(hs:s.err=0)(a:(DE f).2=0):iy g (DE f).1/\(DE f).1.abf<=3000*4096:=by
 have hn:=h.abf;unfold DE at a|-
 split
 ·rename_i c;refine⟨h.ty.down hs c,?_⟩;show(f.up 1 (-1)).abf<=_;rw[Fm.mA];omega
 ·rename_i c;rw[cB c] at a
  split
  ·rename_i b;rw[cG b] at a;exact absurd a b
  ·rename_i b;rw[cB b] at a
   split
   ·rename_i d;rw[cG d] at a;cases a
   ·rename_i d;obtain⟨_,a2,a3⟩:=KP h.ty 0 (by simp;omega) hn (wy.1 b);refine⟨a2.down hs (by omega),?_⟩;show((f.uA 0).1.up 1 (-1)).abf<=_;rw[Fm.mA];omega
def s_{g:List Ty}{s:Ty}{f:Fm}(h:Hg (g++[s]) f)(hg:g.length<=1000):kI f=some (DE f):=by
 have hn:=h.abf;have k:f.abj 1000000000000=true:=h.ty.abj _ (by simp;omega);unfold kI DE;rw[mY h.ok (by omega) k (by omega) (by omega),cz]
 by_cases d:f.abl 0=0
 ·rw[cG d,cG (by rw[eH];omega),qF h.ok (by omega) k d];rfl
 ·rw[cB d,cB (by rw[eH];omega),Iw FU f 0 0 (by rw[dP];omega) (by omega) h.ok (LK.of f hn h.ok (h.ty.abj _ (by simp;omega)))];obtain⟨a,e,i⟩:∃a e,f.uA 0=(a,e):=⟨_,_,rfl⟩;rw[i,cF];simp only[]
  by_cases he:e=0
  ·subst he;rw[cB (by decide),cB (by decide)];have b:=KP h.ty 0 (by simp;omega) hn (by rw[i]);rw[i] at b;obtain⟨_,a2,a3⟩:=b;have a2:iy (g++[s]) a:=a2;have a3:a.abf<=3000*f.abf:=a3;have c:a.abj 1000000000000=true:=a2.abj _ (by simp;omega);rw[mY a2.ok (by omega) c (by omega) (by omega),cz]
   by_cases j:a.abl 0=0
   ·rw[cB (by rw[eO];omega),cB (by simpa using j),qF a2.ok (by omega) c j];rfl
   ·rw[cG (by rw[eO];omega),cG j];rfl
  ·rw[cG (by rw[cR];exact he),cG he];rfl
abbrev PR:=(Fm×Nat)⊕Int
def pbind(r:PR)(k:Fm->Nat->PR):PR:=match r with|.inl p=>k p.1 p.2|.inr e=>.inr e
def sq(c:Prop)[Decidable c](e:Int)(r:PR):PR:=if c then .inr e else r
def jX{c:Prop}[Decidable c]{e:Int}{r:PR}(h:c):sq c e r=.inr e:=cG h
def jq{c:Prop}[Decidable c]{e:Int}{r:PR}(h:¬c):sq c e r=r:=cB h
def kc(e:Int)(r:PR):PR:=if e=0 then r else .inr e
@[simp] theorem eR(f:Fm)(m:Nat)(k:Fm->Nat->PR):pbind (.inl (f,m)) k=k f m:=rfl
def gg{e:Int}{r:PR}(h:e=0):kc e r=r:=cG h
def iP{e:Int}{r:PR}(h:e≠0):kc e r=.inr e:=cB h
noncomputable def G3 (r:PR):PR:=pbind r λf m=>if f.err=0 then .inl (f,if f.has=true then m else 0)else .inr 4
def Ci(r:PR)(k:Int):PR:=pbind r λf m=>if f.abd=k then .inl (f,m)else .inr 10
noncomputable def yA (a b:Fm):Int:=(gB a b).getD 0
noncomputable def E5 (r:PR) (F:Fm) (t:Tm):PR:=pbind r λf m=>kc (kO F t).2 (kc (yA (kO F t).1 f) (.inl (f,m)))
def FK(t:Tm):Nat->Nat
 |0=>0|j+1=>if 0<t.abl j then FK t j|||2^j else FK t j
def q8(t:Tm):Nat:=FK t 32
def Gc(t:Tm):∀(n i:Nat),(FK t n).testBit i=true↔i<n/\0<t.abl i
 |0,i=>by simp[FK]|n+1,i=>by
  have c:=Gc t n i;rw[FK]
  by_cases h:0<t.abl n
  ·rw[cG h,PZ,ni,c,XP];simp only[kR];constructor
   ·rintro(⟨a,b⟩|rfl)
    ·exact⟨by omega,b⟩
    ·exact⟨by omega,h⟩
   ·rintro⟨a,b⟩
    by_cases hi:n=i
    ·exact .inr hi
    ·exact .inl ⟨by omega,b⟩
  ·rw[cB h,c];constructor
   ·rintro⟨a,b⟩;exact⟨by omega,b⟩
   ·rintro⟨a,b⟩;refine⟨?_,b⟩;rcases p4 i n with hh|hh
    ·exact hh
    ·obtain rfl:i=n:=by omega
     exact absurd b h
def MT(t:Tm)(i:Nat):(q8 t).testBit i=true↔i<32/\0<t.abl i:=Gc t 32 i
def v0:Tm:=.mk 1 0 (.mk 0 []) []
def v1:Tm:=.mk 1 1 (.mk 0 []) []
noncomputable def m5 (L:List Fm) (k i:Int) (s:Ty) (ts:List Tm) (fs:List Fm) (sub:Nat->List Ty->List Fm->PR) (g:List Ty) (hs:List Fm):PR:=
 let t:=ts.getD 0 Tm.z
 let F:=fs.getD 0 fx
 if k=1 then sq ((hs.length:Int)<=i) 8 (.inl (hs.getD (hs.length-1-i.toNat) fx,0))
 else if k=2 then sq ((L.length:Int)<=i) 9 (.inl (L.getD i.toNat fx,0))
 else if k=3 then pbind (sub 0 g hs) λa m=>pbind (sub 1 g hs) λb n=>.inl (.mk 2 .z [] [a,b],m|||n)
 else if k=4 then pbind (Ci (sub 0 g hs) 2) λa m=>.inl (a.abe.getD 0 fx,m)
 else if k=5 then pbind (Ci (sub 0 g hs) 2) λa m=>.inl (a.abe.getD 1 fx,m)
 else if k=6 then kc (F.sD g) (sq (16<hs.length+1) 3 (pbind (sub 0 g (hs++[F])) λb m=>.inl (.mk 3 .z [] [F,b],m)))
 else if k=7 then pbind (Ci (sub 0 g hs) 3) λa m=>pbind (sub 1 g hs) λb n=>kc (yA (a.abe.getD 0 fx) b) (.inl (a.abe.getD 1 fx,m|||n))
 else if k=8 then sq (16<g.length+1) 3 (pbind (sub 0 (g++[s]) (hs.map (Fm.up 0 1))) λb m=>.inl (.mk 4 s [] [b],m/2))
 else if k=12 then sq (16<g.length+1) 3 (pbind (sub 0 (g++[s]) (hs.map (Fm.up 0 1))) λb m=>sq (m.testBit 0=true) 12 (.inl (.mk 6 s [] [b],m/2)))
 else if k=9 then kc (t.ty g).2 (pbind (Ci (sub 0 g hs) 4) λa m=>sq ((t.ty g).1.jA a.cD=false) 7 (kc (kO (a.abe.getD 0 fx) t).2 (.inl ((kO (a.abe.getD 0 fx) t).1,m|||q8 t))))
 else if k=13 then kc (t.ty g).2 (pbind (Ci (sub 0 g hs) 6) λa m=>sq ((t.ty g).1.jA a.cD=false) 7 (kc (kO (a.abe.getD 0 fx) t).2 (.inl ((kO (a.abe.getD 0 fx) t).1,m))))
 else if k=10 then kc (F.sD g) (sq (F.abd≠5) 10 (kc (t.ty g).2 (sq ((t.ty g).1.jA F.cD=false) 7 (pbind (E5 (sub 0 g hs) (F.abe.getD 0 fx) t) λ_ m=>.inl (F,m|||q8 t)))))
 else if k=14 then kc (F.sD g) (sq (F.abd≠7) 10 (kc (t.ty g).2 (sq ((t.ty g).1.jA F.cD=false) 7 (pbind (E5 (sub 0 g hs) (F.abe.getD 0 fx) t) λ_ m=>.inl (F,m)))))
 else if k=11 then pbind (Ci (sub 0 g hs) 5) λa m=>sq (16<g.length+1\/16<hs.length+1) 3 (pbind (sub 1 (g++[a.cD]) (hs.map (Fm.up 0 1)++[a.abe.getD 0 fx])) λb n=>kc (DE b).2 (.inl ((DE b).1,m|||n/2)))
 else if k=15 then pbind (Ci (sub 0 g hs) 7) λa m=>sq (16<g.length+1\/16<hs.length+1) 3 (pbind (sub 1 (g++[a.cD]) (hs.map (Fm.up 0 1)++[a.abe.getD 0 fx])) λb n=>kc (DE b).2 (sq (n.testBit 0=true) 12 (.inl ((DE b).1,m|||n/2))))
 else if k=16 then kc (F.sD (g++[.nat])) (kc (mP t g 1) (pbind (E5 (sub 0 g hs) F wa) λ_ m=>sq (16<g.length+1\/16<hs.length+1) 3 (
  pbind (E5 (sub 1 (g++[.nat]) (hs.map (Fm.up 0 1)++[F])) (F.up 1 1) (vZ v0)) λ_ n=>kc (kO F t).2 (.inl ((kO F t).1,(q8 t|||m)|||n/2)))))
 else if k=17 then kc (F.sD (g++[.mT])) (kc (mP t g 2) (pbind (E5 (sub 0 g hs) F (.mk 7 0 .z [])) λ_ m=>sq (16<g.length+2\/16<hs.length+1) 3 (
  pbind (E5 (sub 1 (g++[.nat]++[.mT]) (hs.map (Fm.up 0 2)++[F.up 1 1])) (F.up 1 2) (.mk 8 0 .z [v1,v0])) λ_ n=>kc (kO F t).2 (.inl ((kO F t).1,(q8 t|||m)|||n/4)))))
 else if k=18 then kc (mP t g 1) (.inl (.mk 1 .z [t,t] [],0))
 else if k=19 then kc (F.sD (g++[.nat])) (pbind (Ci (sub 0 g hs) 1) λa _=>pbind (E5 (sub 1 g hs) F (a.cU.getD 0 Tm.z)) λ_ n=>kc (kO F (a.cU.getD 1 Tm.z)).2 (.inl ((kO F (a.cU.getD 1 Tm.z)).1,n)))
 else pbind (Ci (sub 0 g hs) 4) λa m=>sq ((a.abe.getD 0 fx).abd≠5) 10 (sq ((Ty.fn a.cD (a.abe.getD 0 fx).cD).err≠0) 4 (sq ((kO (((a.abe.getD 0 fx).abe.getD 0 fx).up 2 1) (gv v1 v0)).2≠0) 4 (.inl (.mk 5 (Ty.fn a.cD (a.abe.getD 0 fx).cD) [] [.mk 4 a.cD [] [(kO (((a.abe.getD 0 fx).abe.getD 0 fx).up 2 1) (gv v1 v0)).1]],m))))
mutual
noncomputable def Pf.inf (L:List Fm):Pf->List Ty->List Fm->PR
 |.mk k i s ts fs l,g,hs=>G3 (m5 L k i s ts fs (Pf.rl L l) g hs)
noncomputable def Pf.rl (L:List Fm):List Pf->Nat->List Ty->List Fm->PR
 |[],_,_,_=>.inr 2|p::_,0,g,hs=>p.inf L g hs|_::l,n+1,g,hs=>Pf.rl L l n g hs
end
def Yv(g:List Ty)(s:PR)(k:Option (cE×Int))(r:Option (qE×Int)):Prop:=
 (∃e,e≠0/\s=.inr e/\k=some (⟨fx,0⟩,e)/\r=some (⟨fx,[]⟩,e))\/∃(f:Fm) (m:Nat) (l:List Int),s=.inl (f,m)/\k=some (⟨f,(m:Int)⟩,0)/\r=some (⟨f,l⟩,0)/\Us l m/\Hg g f
def j8(g:List Ty)(s:PR)(k:Option (cE×Int))(r:Option (Fm×List Int×Int)):Prop:=
 (∃e x f l,e≠0/\s=.inr e/\k=some (x,e)/\r=some (f,l,e))\/∃(f:Fm) (m:Nat) (l:List Int),s=.inl (f,m)/\k=some (⟨f,(m:Int)⟩,0)/\r=some (f,l,0)/\Us l m/\iy g f/\f.abf<=15000000
def j8.no{g:List Ty}{s:PR}{k:Option (cE×Int)}{r:Option (Fm×List Int×Int)}{e:Int}{x:cE}{f:Fm}{l:List Int}(he:e≠0)(a:s=.inr e)(b:k=some (x,e))(c:r=some (f,l,e)):j8 g s k r:=.inl ⟨e,x,f,l,he,a,b,c⟩
def j8.yes{g:List Ty}{s:PR}{k:Option (cE×Int)}{r:Option (Fm×List Int×Int)}{f:Fm}{m:Nat}{l:List Int}(a:s=.inl (f,m))(b:k=some (⟨f,(m:Int)⟩,0))(c:r=some (f,l,0))(d:Us l m)(e:iy g f)(h:f.abf<=15000000):j8 g s k r:=.inr ⟨f,m,l,a,b,c,d,e,h⟩
def j8.infer{g:List Ty}(hg:g.length<=16){s:PR}{k:Option (cE×Int)}{r:Option (Fm×List Int×Int)}(h:j8 g s k r):Yv g (G3 s) (Hj k) (Hm r):=by
 rcases h with⟨e,x,f,l,he,rfl,rfl,rfl⟩|⟨f,m,l,rfl,rfl,rfl,hu,b,hn⟩
 ·refine .inl ⟨e,he,rfl,?_,?_⟩
  ·unfold Hj;rw[cF,cG (by rw[cR];exact he)];rfl
  ·unfold Hm;rw[mz,cG (by rw[cR];exact he)];rfl
 ·have c:=b.ok;have hw:=f.hZ c;have i:=b.abj 1000000000000 (by omega);have d:G3 (.inl (f,m))=if f.err=0 then .inl (f,if f.has=true then m else 0)else .inr 4:=rfl;unfold Hj Hm;rw[cF,mz];simp only[cT];rw[cB (by decide),cB (by decide),jy (by omega),kx (by omega),cz,cz]
  by_cases a:f.err=0
  ·rw[cB (by rw[cR];simp[a]),cB (by rw[cR];simp[a]),Af (by omega) i,AQ _ (by omega),d,cG a];rw[cB (show¬(f.err≠0) by simpa using a),cF,cF];cases f.has with
   |true=>exact .inr ⟨f,m,l,rfl,rfl,rfl,hu,⟨a,b⟩⟩|false=>exact .inr ⟨f,0,[],rfl,rfl,rfl,.nil,⟨a,b⟩⟩
  ·rw[cG (by rw[cR];exact a),cG (by rw[cR];exact a),d,cB a];exact .inl ⟨4,by decide,rfl,rfl,rfl⟩
def hJ(L:List Fm)(P:Pf)(N:Nat):Prop:=∀n n',N<=n->N<=n'->∀p c,PG L p c->Yv c.abh (P.inf L c.abh c.abk) (dv n L P p) (dd n' c P)
def UA{f:Fm}{m:Nat}{k:Int}(h:f.abd=k):Ci (.inl (f,m)) k=.inl (f,m):=by unfold Ci;rw[eR,cG h]
def ll{g:List Ty}{s:PR}{n:Nat}{L:List Fm}{P:Pf}{p:cJ}{r:Option (qE×Int)}(h:Yv g s (dv n L P p) r)(k:Int):(∃e,e≠0/\Ci s k=.inr e/\dx (n+1) L P p k=some (⟨fx,0⟩,e)/\((r=some (⟨fx,[]⟩,e))\/∃f l m,r=some (⟨f,l⟩,0)/\f.abd≠k/\e=10/\Us l m))\/∃(f:Fm) (m:Nat) (l:List Int),Ci s k=.inl (f,m)/\dx (n+1) L P p k=some (⟨f,(m:Int)⟩,0)/\r=some (⟨f,l⟩,0)/\Us l m/\Hg g f/\f.abd=k:=by
 rcases h with⟨e,he,b,c,d⟩|⟨f,m,l,b,c,d,hu,i⟩
 ·refine .inl ⟨e,he,by rw[b];rfl,?_,.inl d⟩;rw[dx,c,cF,cB (by rw[qx,eJ,eH];exactλh=>he h.1)]
 ·by_cases a:f.abd=k
  ·refine .inr ⟨f,m,l,by rw[b];unfold Ci;rw[eR,cG a],?_,d,hu,i,a⟩;rw[dx,c,cF,cB (by rw[qx,eJ,cR];exactλh=>h.2 a)]
  ·refine .inl ⟨10,by decide,by rw[b];unfold Ci;rw[eR,cB a],?_,.inr ⟨f,l,m,d,a,rfl,hu⟩⟩;rw[dx,c,cF,cG (by rw[qx,eJ,cR,eH];exact⟨rfl,a⟩)];rfl
def Hx{a b:Fm}(e:a.wt<=1000000000)(f:b.wt<=1000000000):gB a b=some (yA a b)/\pk a b=some (yA a b):=by
 obtain⟨c,d,g⟩:=x' e f
 have:yA a b=c:=by unfold yA;rw[d];rfl
 rw[this];exact⟨d,g⟩
structure oC (g:List Ty) (F:Fm) (t:Tm):Prop where
 fe:F.err=0
 te:t.err=0
 ty:∃s,iy (g++[s]) F/\dF g t s
def oC.put{g:List Ty}{F:Fm}{t:Tm}(h:oC g F t):iy g (Fm.ia 0 F t):=by
 obtain⟨s,a,b⟩:=h.ty;exact a.put b
def oC.both{g:List Ty}{F:Fm}{t:Tm}(h:oC g F t)(hg:g.length<=100):gJ F t=some (kO F t)/\jk F t=some (kO F t):=by
 obtain⟨s,c,d⟩:=h.ty;obtain⟨_,a2⟩:=Fm.fj h.fe;obtain⟨_,e⟩:=Tm.fj h.te;have a:F.abj 536870912=true:=c.abj _ (by simp;omega);have b:t.abj 536870912=true:=d.abj _ (by omega);refine⟨E2 h.fe h.te (Fm.kH F (by omega) a) (Tm.kH t (by omega) b),?_⟩;unfold jk;rw[vz h.fe h.te a b h.put.ok];rfl
def lD(F:Fm)(t:Tm):kO F t=(fx,4)\/(Fm.ia 0 F t).abf<=4096/\kO F t=(Fm.ia 0 F t,0):=by
 unfold kO
 split
 ·exact .inl rfl
 ·exact .inr ⟨by omega,rfl⟩
def qf{g:List Ty}(hg:g.length<=16){s:PR}{n n':Nat}{L:List Fm}{P:Pf}{p:cJ}{c:cY}(h:Yv g s (dv n L P p) (dd n' c P)){F:Fm}{t:Tm}(q:oC g F t):(∃e x l m,e≠0/\E5 s F t=.inr e/\dz (n+1) L P p F t=some (x,e)/\dU (n'+1) c P F t=some (l,e)/\Us l m)\/∃(f:Fm) (m:Nat) (l:List Int),E5 s F t=.inl (f,m)/\dz (n+1) L P p F t=some (⟨f,(m:Int)⟩,0)/\dU (n'+1) c P F t=some (l,0)/\Us l m:=by
 obtain⟨i,k2⟩:=q.both (by omega);rcases h with⟨e,he,j,k,o⟩|⟨f,m,l,j,k,o,hu,r⟩
 ·refine .inl ⟨e,⟨fx,0⟩,[],0,he,by rw[j];rfl,?_,?_,.nil⟩
  ·rw[dz,k,cF,cG (by rw[cR];exact he)];rfl
  ·rw[dU,o,cF,cG (by rw[cR];exact he)]
 ·rcases lD F t with d|⟨hn,d⟩
  ·rw[d] at i k2;refine .inl ⟨4,⟨fx,0⟩,[],0,by decide,?_,?_,?_,.nil⟩
   ·rw[j];unfold E5;rw[eR,d];rfl
   ·rw[dz,k,cF,cB (by decide),i,cF,cG (by decide)];rfl
   ·rw[dU,o,cF,cB (by decide),k2,cF,cG (by decide)]
  ·rw[d] at i k2;have B:=Fm.hZ _ q.put.ok;have C:=Fm.hZ _ r.ok;have u:=r.abf;obtain⟨v,w⟩:=Hx (a:=Fm.ia 0 F t) (b:=f) (by omega) (by omega)
   have y:E5 s F t=kc (yA (Fm.ia 0 F t) f) (.inl (f,m)):=by rw[j];unfold E5;rw[eR,d,gg rfl]
   have z:dz (n+1) L P p F t=some (⟨f,(m:Int)⟩,yA (Fm.ia 0 F t) f):=by
    rw[dz,k,cF,cB (by decide),i,cF,cB (by decide),v,cz]
   have A:dU (n'+1) c P F t=some (l,yA (Fm.ia 0 F t) f):=by
    rw[dU,o,cF,cB (by decide),k2,cF,cB (by decide),w,cz]
   rw[y,z,A]
   by_cases hm:yA (Fm.ia 0 F t) f=0
   ·rw[gg hm,hm];exact .inr ⟨f,m,l,rfl,rfl,rfl,hu⟩
   ·rw[iP hm];exact .inl ⟨_,_,_,m,hm,rfl,rfl,rfl,hu⟩
def wX{g:List Ty}(h:iu g)(hg:g.length<=16):tz g=0:=by
 unfold tz;rw[cB (by omega)]
 induction g with
 |nil=>rfl|cons s g a=>
  have b:=h s (by simp);simp only[mi,dQ];rw[cG b];exact a (λx c=>h x (by simp[c])) (by simp at hg;omega)
def qb{g:List Ty}(a:iu g)(hg:g.length<=17){F:Fm}(hF:F.err=0):ds FU (g.map qw) F=some (F.sD g)/\jo g F=some (F.sD g)/\(g.length<=16->hY g F=some (F.sD g)):=by
 obtain⟨a1,a2⟩:=Fm.fj hF;have hw:=F.hZ a1;refine⟨sV F a1 FU (by rw[dP];omega) g a (by omega) a2,?_,λb=>?_⟩
 ·unfold jo;rw[kx (by omega),hF,cz,cB (by decide),vH F a1 FU (by rw[dP];omega) g a (by omega) a2];rfl
 ·rw[pC (by omega) (by omega) (λt c=>by have:=dM (a t c);omega)];unfold zQ;rw[wX a b,cB (by decide),cB (by simpa using hF)]
def lb{g:List Ty}(a:iu g)(hg:g.length<=16){t:Tm}(b:t.err=0):du FU (g.map qw) t=some (EI (t.ty g))/\kb g t=some (t.ty g):=by
 obtain⟨a1,a2⟩:=Tm.fj b;have hw:=t.hZ a1;refine⟨um a1 a (by omega),?_⟩;unfold kb;rw[ql g (by omega) (λt b=>by have:=dM (a t b);omega),wX a hg,cz,cB (by decide),wb a1 a2 a (by omega)];rfl
def has_both{g:List Ty}(d:iu g)(hg:g.length<=16){c:cY}(b:c.abh=g){t:Tm}(f:t.err=0)(k:Int):gn (g.map qw) t k=some (mP t g k)/\gG c t k=some (mP t g k):=by
 obtain⟨a1,a2⟩:=Tm.fj f;refine⟨xy k a1 d (by omega),?_⟩;unfold gG mP;rw[b,(lb d hg f).2];obtain⟨s,e,i⟩:∃s e,t.ty g=(s,e):=⟨_,_,rfl⟩;rw[i,cF]
 by_cases he:e=0
 ·subst he;rw[cB (by decide)]
  by_cases a:s.abd=k
  ·rw[cB (by rw[cR];simpa using a),cB (λh=>h.2 a)]
  ·rw[cG (by rw[cR];exact a),cG ⟨rfl,a⟩]
 ·rw[cG (by rw[cR];exact he),cB (λh=>he h.1)]
def tQ{g:List Ty}(hg:g.length<=16){t:Tm}{s:Ty}(h:dF g t s)(b:t.err=0):∃l,iN t=some (q8 t:Int)/\j7 t=some l/\Us l (q8 t):=by
 obtain⟨a1,a2⟩:=Tm.fj b;have a:∀j:Int,32<=j->t.abl j=0:=λj k=>h.JL j (by omega);obtain⟨l,m,d,e,c,f⟩:=P1 b (h.abj _ (by omega)) a
 have:m=q8 t:=by
  refine Q1 λi=>?_;rw[yU,<-c.mem i,f,MT];constructor
  ·rintro⟨_,h⟩;refine⟨?_,h⟩;rcases p4 i 32 with hh|hh
   ·exact hh
   ·rw[a i (by omega)] at h;omega
  ·rintro⟨_,h⟩;exact⟨by omega,h⟩
 rw[<-this];exact⟨l,d,e,c⟩
def nz:¬dr 0 0=true:=by decide
def nX(n:Nat)(a0:List Fm)(a1:Pf)(a2:cJ):Option (cE×Int):=
 if de a1.abd 1=true then mc a0 a1 a2 else(if de a1.abd 2=true then lq a0 a1 a2 else(if de a1.abd 3=true then jh n a0 a1 a2 else(if de a1.abd 4=true then fS n a0 a1 a2 else(if de a1.abd 5=true then fS n a0 a1 a2 else(if de a1.abd 6=true then jf n a0 a1 a2 else(if de a1.abd 7=true then ji n a0 a1 a2 else(if de a1.abd 8=true then fH n a0 a1 a2 else(if de a1.abd 12=true then fH n a0 a1 a2 else(if de a1.abd 9=true then fG n a0 a1 a2 else(if de a1.abd 13=true then fG n a0 a1 a2 else(if de a1.abd 10=true then fR n a0 a1 a2 else(if de a1.abd 14=true then fR n a0 a1 a2 else(if de a1.abd 11=true then fU n a0 a1 a2 else(if de a1.abd 15=true then fU n a0 a1 a2 else(if de a1.abd 16=true then fT n a0 a1 a2 else(if de a1.abd 17=true then fT n a0 a1 a2 else(if de a1.abd 18=true then lI a0 a1 a2 else(if de a1.abd 19=true then iH n a0 a1 a2 else(if de a1.abd 20=true then ib n a0 a1 a2 else none)))))))))))))))))))
def S0(n:Nat)(L:List Fm)(P:Pf)(p:cJ):dv (n+1) L P p=Hj (nX n L P p):=by rw[dv];rfl
def Sd(n:Nat)(c:cY)(P:Pf):dd (n+1) c P=Hm (c0 n c P):=by rw[dd];rfl
def Pf.yq(L:List Fm)(k i:Int)(s:Ty)(ts:List Tm)(a:List Fm)(l:List Pf)(g:List Ty)(hs:List Fm):(Pf.mk k i s ts a l).inf L g hs=G3 (m5 L k i s ts a (Pf.rl L l) g hs):=by rw[Pf.inf]
def hJ.of{L:List Fm}{k i:Int}{s:Ty}{ts:List Tm}{b:List Fm}{l:List Pf}{N:Nat}
  (H:∀n n',N<=n->N<=n'->∀p c,PG L p c->j8 c.abh (m5 L k i s ts b (Pf.rl L l) c.abh c.abk) (nX (n+4) L (.mk k i s ts b l) p) (c0 (n'+4) c (.mk k i s ts b l))):hJ L (.mk k i s ts b l) (N+5):=by
 intro n n' hn d p c h;obtain⟨m,rfl⟩:∃m,n=m+5:=⟨n-5,by omega⟩;obtain⟨a,rfl⟩:∃a,n'=a+5:=⟨n'-5,by omega⟩;rw[show m+5=m+4+1 from rfl,show a+5=a+4+1 from rfl,S0,Sd,Pf.yq];exact j8.infer h.pl.nv (H m a (by omega) (by omega) p c h)
def Xn(n:Nat)(c:cY)(i:Int):c0 (n+1) c (.mk 1 i .z [] [] [])=if(qT i (dm c.abk))=true then some (fx,[],8)else cA (c_ c.abk (dX .i64 (dX .i64 (dm c.abk) 1) i)) λa=>some (a,[],0):=by rw[c0];rfl
def XX(L:List Fm)(i:Int)(g:List Ty)(hs:List Fm):m5 L 1 i .z [] [] (Pf.rl L []) g hs=sq ((hs.length:Int)<=i) 8 (.inl (hs.getD (hs.length-1-i.toNat) fx,0)):=rfl
def Ws(n:Nat)(L:List Fm)(i:Int)(p:cJ):nX n L (.mk 1 i .z [] [] []) p=cN (ju p i) λa b=>if b=true then some (⟨a,0⟩,0)else some (⟨fx,0⟩,8):=rfl
def NP{L:List Fm}{i:Int}(hi:0<=i):hJ L (.mk 1 i .z [] [] []) 5:=by
 refine hJ.of (N:=0) λn n' _ _ p c h=>?_;rw[Xn,XX,Ws];have g:=h.pl.Kq hi
 by_cases d:(c.abk.length:Int)<=i
 ·rw[cG d] at g;rw[jX d,g,cF,cB (by decide),cG (show qT i (dm c.abk)=true by rw[gP,et];exact d)];exact j8.no (by decide) rfl rfl rfl
 ·rw[cB d] at g;obtain⟨f,e,k⟩:=g;rw[jq d,k,cF,cG rfl,cB (show¬(qT i (dm c.abk)=true) by rw[gP,et];exact d),e,cz];have l:=h.pl.nh;rw[et,dW (a:=(c.abk.length:Int)) (by omega) (by omega),dW (by omega) (by omega)] at e
  have b:c.abk.length-1-i.toNat<c.abk.length:=by omega
  rw[show(c.abk.length:Int)-1-i=((c.abk.length-1-i.toNat:Nat):Int) by omega,hB,na b] at e
  have m:c.abk.getD (c.abk.length-1-i.toNat) fx=f:=by
   rw[nk,na b];exact gk e
  have j:=h.abk f (by rw[<-gk e];exact BT b);exact j8.yes (by rw[m]) rfl rfl .nil j.ty (by have:=j.abf;omega)
def Wh(n:Nat)(c:cY)(i:Int):c0 (n+1) c (.mk 2 i .z [] [] [])=if(qT i (dm c.lemmas))=true then some (fx,[],9)else cA (c_ c.lemmas i) λa=>some (a,[],0):=by rw[c0];rfl
def Yc(L:List Fm)(i:Int)(g:List Ty)(hs:List Fm):m5 L 2 i .z [] [] (Pf.rl L []) g hs=sq ((L.length:Int)<=i) 9 (.inl (L.getD i.toNat fx,0)):=rfl
def Yk(n:Nat)(L:List Fm)(i:Int)(p:cJ):nX n L (.mk 2 i .z [] [] []) p=if(qT i (dm L))=true then some (⟨fx,0⟩,9)else cA (c_ L i) λa=>some (⟨a,0⟩,0):=rfl
def Ph{L:List Fm}{i:Int}(hi:0<=i):hJ L (.mk 2 i .z [] [] []) 5:=by
 refine hJ.of (N:=0) λn n' _ _ p c h=>?_;rw[Wh,Yc,Yk,h.L4]
 by_cases b:(L.length:Int)<=i
 ·rw[jX b,cG (by rw[gP,et];exact b),cG (by rw[gP,et];exact b)];exact j8.no (by decide) rfl rfl rfl
 ·obtain⟨k,rfl⟩:∃k:Nat,i=k:=⟨i.toNat,by omega⟩
  have a:k<L.length:=by omega
  rw[jq b,cB (by rw[gP,et];exact b),cB (by rw[gP,et];exact b),hB,na a,cz,cz]
  have e:L.getD (k:Int).toNat fx=L[k]:=by rw[BM,nk,na a];rfl
  have d:=h.S_ _ (BT a);exact j8.yes (by rw[e]) rfl rfl .nil (by simpa using d.ty.front c.abh) (by have:=d.abf;omega)
def SH(n:Nat)(c:cY)(a b:Pf):c0 (n+1) c (.mk 3 0 .z [] [] [a,b])=cN (dd n c a) λd e=>if(dr e 0)=true then some (fx,[],e)else cN (dd n c b) λf g=>cA (lN 2 d.cK f.cK) λh=>cA (e_ d.eS f.eS) λi=>some (h,i,g):=by rw[c0];rfl
def RP(L:List Fm)(a b:Pf)(g:List Ty)(hs:List Fm):m5 L 3 0 .z [] [] (Pf.rl L [a,b]) g hs=pbind (a.inf L g hs) λf m=>pbind (b.inf L g hs) λc n=>.inl (.mk 2 .z [] [f,c],m|||n):=rfl
def Ue(n:Nat)(L:List Fm)(a b:Pf)(p:cJ):nX (n+1) L (.mk 3 0 .z [] [] [a,b]) p=cN (dv n L a p) λc d=>if(dr d 0)=true then some (⟨fx,0⟩,d)else cN (dv n L b p) λe f=>if(dr f 0)=true then some (⟨fx,0⟩,f)else some (⟨.mk 2 .z [] [c.cK,e.cK],tO .u32 c.eS e.eS⟩,0):=by
 show jh (n+1) L (.mk 3 0 .z [] [] [a,b]) p=_;rw[jh];rfl
def Kr:fx.wt<=1000000:=by decide
def LV{L:List Fm}{a b:Pf}{N:Nat}(t:hJ L a N)(u:hJ L b N):hJ L (.mk 3 0 .z [] [] [a,b]) (N+5):=by
 refine hJ.of λn n' hn v p c h=>?_;rw[SH,RP,Ue];rcases t (n+3) (n'+3) (by omega) (by omega) p c h with⟨e,he,d,g,i⟩|⟨f,m,l,d,g,i,hu,o⟩
 ·rw[d,g,i,cF,cF,cG (by rw[cR];exact he),cG (by rw[cR];exact he)];exact j8.no he rfl rfl rfl
 ·have w:=o.abf;have x:=f.hZ o.ok;rw[d,g,i,cF,cF,cB (by decide),cB (by decide),eR];rcases u (n+3) (n'+3) (by omega) (by omega) p c h with⟨e,he,d,g,i⟩|⟨y,C,D,d,g,i,k,j⟩
  ·obtain⟨q,q1,_⟩:=hu.union .nil (by have:=hu.len;omega) (by simp);have:=Kr;rw[d,g,i,cF,cF,cG (by rw[cR];exact he)];simp only[];rw[DW (by omega) (by omega),cz,q1];exact j8.no he rfl rfl rfl
  ·have r:=j.abf;have s:=y.hZ j.ok;obtain⟨q,q1,A,B,_⟩:=hu.union k (by have:=hu.len;omega) (by have:=k.len;omega);rw[d,g,i,cF,cF,cB (by decide),eR];simp only[];rw[DW (by omega) (by omega),cz,q1,A];refine j8.yes rfl rfl rfl B (.two (.inl rfl) o.ty j.ty) ?_;rw[Fm.cI];simp only[cX];omega
def iy.M'{g:List Ty}{f:Fm}(h:iy g f){k:Int}(c:f.abd=k)(j:k=2\/k=3):∃a b,f=.mk k .z [] [a,b]/\iy g a/\iy g b:=by
 cases h with
 |eq _ _=>simp only[Fm.df] at c;omega
 |two d e i=>simp only[Fm.df] at c;subst c;exact⟨_,_,rfl,e,i⟩
 |q d _ _=>simp only[Fm.df] at c;omega
def iy.BC{g:List Ty}{f:Fm}(h:iy g f){k:Int}(b:f.abd=k)(e:k=4\/k=5\/k=6\/k=7):∃s a,f=.mk k s [] [a]/\s.err=0/\iy (g++[s]) a:=by
 cases h with
 |eq _ _=>simp only[Fm.df] at b;omega
 |two c d i=>simp only[Fm.df] at b;omega
 |q c hs d=>simp only[Fm.df] at b;subst b;exact⟨_,_,rfl,hs,d⟩
def iy.Xq{g:List Ty}{f:Fm}(h:iy g f)(e:f.abd=1):∃a b,f=.mk 1 .z [a,b] []/\dF g a .nat/\dF g b .nat:=by
 cases h with
 |eq c i=>exact⟨_,_,rfl,c,i⟩|two d c i=>simp only[Fm.df] at e;omega
 |q d hs c=>simp only[Fm.df] at e;omega
def Hg.sub{g a:List Ty}{k:Int}{s:Ty}{ts:List Tm}{l:List Fm}(h:Hg g (.mk k s ts l)){x:Fm}(c:x∈l)(b:iy a x):Hg a x:=by
 have d:=h.abf;rw[Fm.cI] at d;have:=da Fm.abf c;refine⟨?_,b⟩;unfold Fm.err;rw[cG b.ok,cB (by omega)]
def Uk(n:Nat)(c:cY)(a:Pf):c0 (n+1) c (.mk 4 0 .z [] [] [a])=cN (dd n c a) λb d=>if(dr d 0)=true then some (fx,[],d)else if(dr b.cK.abd 2)=true then some (fx,[],10)else cA (c_ b.cK.abe (dX .i64 4 4)) λe=>some (e,b.eS,0):=by rw[c0];rfl
def R3(n:Nat)(c:cY)(a:Pf):c0 (n+1) c (.mk 5 0 .z [] [] [a])=cN (dd n c a) λb d=>if(dr d 0)=true then some (fx,[],d)else if(dr b.cK.abd 2)=true then some (fx,[],10)else cA (c_ b.cK.abe (dX .i64 5 4)) λe=>some (e,b.eS,0):=by rw[c0];rfl
def Sr(L:List Fm)(a:Pf)(g:List Ty)(hs:List Fm):m5 L 4 0 .z [] [] (Pf.rl L [a]) g hs=pbind (Ci (a.inf L g hs) 2) λf m=>.inl (f.abe.getD 0 fx,m):=rfl
def Um(L:List Fm)(a:Pf)(g:List Ty)(hs:List Fm):m5 L 5 0 .z [] [] (Pf.rl L [a]) g hs=pbind (Ci (a.inf L g hs) 2) λf m=>.inl (f.abe.getD 1 fx,m):=rfl
def Tt(n:Nat)(L:List Fm)(a:Pf)(p:cJ):nX (n+1) L (.mk 4 0 .z [] [] [a]) p=cN (dx n L a p 2) λb c=>if(dr c 0)=true then some (⟨fx,0⟩,c)else cA (c_ b.cK.abe 0) λd=>some (⟨d,b.eS⟩,0):=by
 show fS (n+1) L (.mk 4 0 .z [] [] [a]) p=_;rw[fS];rfl
def R7(n:Nat)(L:List Fm)(a:Pf)(p:cJ):nX (n+1) L (.mk 5 0 .z [] [] [a]) p=cN (dx n L a p 2) λb c=>if(dr c 0)=true then some (⟨fx,0⟩,c)else cA (c_ b.cK.abe 1) λd=>some (⟨d,b.eS⟩,0):=by
 show fS (n+1) L (.mk 5 0 .z [] [] [a]) p=_;rw[fS];rfl
def MQ{L:List Fm}{a:Pf}{N:Nat}(o:hJ L a N):hJ L (.mk 4 0 .z [] [] [a]) (N+5):=by
 refine hJ.of λn n' hn q p c h=>?_;rw[Uk,Sr,Tt];rcases ll (o (n+2) (n'+3) (by omega) (by omega) p c h) 2 with⟨e,he,d,g,b⟩|⟨f,m,l,d,g,b,hu,j,i⟩
 ·rw[d,g,cF,cG (by rw[cR];exact he)];rcases b with b|⟨f,l,m,b,i,rfl,_⟩
  ·rw[b,cF,cG (by rw[cR];exact he)];exact j8.no he rfl rfl rfl
  ·rw[b,cF,cB (by decide),cG (by rw[cR];exact i)];exact j8.no he rfl rfl rfl
 ·obtain⟨x,y,rfl,k,hy⟩:=j.ty.M' i (.inl rfl);rw[d,g,b,cF,cF,cB (by decide),cB (by decide),cB (by simp),eR];exact j8.yes (f:=x) rfl rfl rfl hu k (by have:=(j.sub (by simp) k).abf;omega)
def L2{L:List Fm}{a:Pf}{N:Nat}(k:hJ L a N):hJ L (.mk 5 0 .z [] [] [a]) (N+5):=by
 refine hJ.of λn n' hn o p c h=>?_;rw[R3,Um,R7];rcases ll (k (n+2) (n'+3) (by omega) (by omega) p c h) 2 with⟨e,he,d,g,b⟩|⟨f,m,l,d,g,b,hu,j,i⟩
 ·rw[d,g,cF,cG (by rw[cR];exact he)];rcases b with b|⟨f,l,m,b,i,rfl,_⟩
  ·rw[b,cF,cG (by rw[cR];exact he)];exact j8.no he rfl rfl rfl
  ·rw[b,cF,cB (by decide),cG (by rw[cR];exact i)];exact j8.no he rfl rfl rfl
 ·obtain⟨x,y,rfl,q,hy⟩:=j.ty.M' i (.inl rfl);rw[d,g,b,cF,cF,cB (by decide),cB (by decide),cB (by simp),eR];exact j8.yes (f:=y) rfl rfl rfl hu hy (by have:=(j.sub (by simp) hy).abf;omega)
def T3(n:Nat)(c:cY)(F:Fm)(a:Pf):c0 (n+1) c (.mk 6 0 .z [] [F] [a])=cA (hY c.abh F) λb=>if(dr b 0)=true then some (fx,[],b)else cA (dt c 0 1) λd=>if(dr d 0)=true then some (fx,[],d)else cA (fk c F) λf=>cN (dd n f a) λe g=>cA (lN 3 F e.cK) λh=>some (h,e.eS,g):=by rw[c0];rfl
def SX(L:List Fm)(F:Fm)(a:Pf)(g:List Ty)(hs:List Fm):m5 L 6 0 .z [] [F] (Pf.rl L [a]) g hs=kc (F.sD g) (sq (16<hs.length+1) 3 (pbind (a.inf L g (hs++[F])) λb m=>.inl (.mk 3 .z [] [F,b],m))):=rfl
def T7(n:Nat)(L:List Fm)(F:Fm)(a:Pf)(p:cJ):nX (n+1) L (.mk 6 0 .z [] [F] [a]) p=cA (ds FU p.abh F) λb=>if(dr b 0)=true then some (⟨fx,0⟩,b)else cA (dq p.eu 0 1) λc=>if(dr c 0)=true then some (⟨fx,0⟩,c)else cA (eo p F) λf=>cN (dv n L a f) λd e=>if(dr e 0)=true then some (⟨fx,0⟩,e)else some (⟨.mk 3 .z [] [F,d.cK],d.eS⟩,0):=by
 show jf (n+1) L (.mk 6 0 .z [] [F] [a]) p=_;rw[jf];rfl
def MA{L:List Fm}{F:Fm}(hF:F.err=0){a:Pf}{N:Nat}(u:hJ L a N):hJ L (.mk 6 0 .z [] [F] [a]) (N+5):=by
 refine hJ.of λn n' hn w p c h=>?_;rw[T3,SX,T7];have j:=h.pl.nv;obtain⟨t1,_,t2⟩:=qb h.pl.ctx (by omega) hF;have x:=(Fm.fj hF).2;have y:=F.hZ (Fm.fj hF).1;rw[h.pl.abh,t1,t2 j,cz,cz]
 by_cases b:F.sD c.abh=0
 ·rw[cB (by rw[cR];simpa using b),cB (by rw[cR];simpa using b),gg b];have i:=qa F (Fm.fj hF).1 c.abh h.pl.ctx b;rcases h.room (v:=0) (k:=1) (by omega) (by omega)with⟨d,g,_,t⟩|⟨d,g,t⟩
  ·have d:dq p.eu 0 1=some 0:=d;have g:dt c 0 1=some 0:=g;rw[d,g,cz,cz,cB (by decide),cB (by decide),jq (by omega)];obtain⟨A,B,C,D,E,G,H⟩:=h.with ⟨hF,i⟩ t;rw[C,D,cz,cz];have hi:=u (n+3) (n'+3) (by omega) (by omega) A B E;rw[G,H] at hi;rcases hi with⟨e,he,o,q,r⟩|⟨f,m,l,o,q,r,hu,s⟩
   ·have:=Kr;rw[o,q,r,cF,cF,cG (by rw[cR];exact he)];simp only[];rw[DW (by omega) (by omega)];exact j8.no he rfl rfl rfl
   ·have I:=s.abf;have J:=f.hZ s.ok;rw[o,q,r,cF,cF,cB (by decide)];simp only[];rw[DW (by omega) (by omega)];refine j8.yes rfl rfl rfl hu (.two (.inr rfl) i s.ty) ?_;rw[Fm.cI];simp only[cX];omega
  ·have d:dq p.eu 0 1=some 3:=d;have g:dt c 0 1=some 3:=g;rw[d,g,cz,cz,cG (by decide),cG (by decide),jX (by omega)];exact j8.no (by decide) rfl rfl rfl
 ·rw[cG (by rw[cR];exact b),cG (by rw[cR];exact b),iP b];exact j8.no b rfl rfl rfl
def TU(n:Nat)(c:cY)(a b:Pf):c0 (n+1) c (.mk 7 0 .z [] [] [a,b])=cN (dd n c a) λd e=>if(dr e 0)=true then some (fx,[],e)else if(dr d.cK.abd 3)=true then some (fx,[],10)else cN (dd n c b) λf g=>if(dr g 0)=true then some (fx,[],g)else cA (c_ d.cK.abe 1) λh=>cA (e_ d.eS f.eS) λi=>cA (c_ d.cK.abe 0) λj=>cA (pk j f.cK) λk=>some (h,i,k):=by rw[c0];rfl
def Tx(L:List Fm)(a b:Pf)(g:List Ty)(hs:List Fm):m5 L 7 0 .z [] [] (Pf.rl L [a,b]) g hs=pbind (Ci (a.inf L g hs) 3) λa m=>pbind (b.inf L g hs) λb n=>kc (yA (a.abe.getD 0 fx) b) (.inl (a.abe.getD 1 fx,m|||n)):=rfl
def UT(n:Nat)(L:List Fm)(a b:Pf)(p:cJ):nX (n+1) L (.mk 7 0 .z [] [] [a,b]) p=cN (dx n L a p 3) λc d=>if(dr d 0)=true then some (⟨fx,0⟩,d)else cN (dv n L b p) λe f=>if(dr f 0)=true then some (⟨fx,0⟩,f)else cA (c_ c.cK.abe 0) λh=>cA (gB h e.cK) λg=>if(dr g 0)=true then some (⟨fx,0⟩,g)else cA (c_ c.cK.abe 1) λi=>some (⟨i,tO .u32 c.eS e.eS⟩,0):=by
 show ji (n+1) L (.mk 7 0 .z [] [] [a,b]) p=_;rw[ji];rfl
def LU{L:List Fm}{a b:Pf}{N:Nat}(B:hJ L a N)(C:hJ L b N):hJ L (.mk 7 0 .z [] [] [a,b]) (N+5):=by
 refine hJ.of λn n' hn D p c h=>?_;rw[TU,Tx,UT];rcases ll (B (n+2) (n'+3) (by omega) (by omega) p c h) 3 with⟨e,he,g,i,d⟩|⟨f,m,l,g,i,d,hu,o,r⟩
 ·rw[g,i,cF,cG (by rw[cR];exact he)];rcases d with d|⟨f,l,m,d,r,rfl,_⟩
  ·rw[d,cF,cG (by rw[cR];exact he)];exact j8.no he rfl rfl rfl
  ·rw[d,cF,cB (by decide),cG (by rw[cR];exact r)];exact j8.no he rfl rfl rfl
 ·obtain⟨x,y,rfl,v,hy⟩:=o.ty.M' r (.inr rfl);have s:=o.sub (x:=x) (by simp) v;have t:=o.sub (x:=y) (by simp) hy;have E:=x.hZ v.ok;have F:=s.abf;rw[g,i,d,cF,cF,cB (by decide),cB (by decide),cB (by simp),eR];rcases C (n+3) (n'+3) (by omega) (by omega) p c h with⟨e,he,g,i,d⟩|⟨u,K,M,g,i,d,j,k⟩
  ·rw[g,i,d,cF,cF,cG (by rw[cR];exact he),cG (by rw[cR];exact he)];exact j8.no he rfl rfl rfl
  ·have w:=k.abf;have A:=u.hZ k.ok;obtain⟨q,q1,G,H,_⟩:=hu.union j (by have:=hu.len;omega) (by have:=j.len;omega);obtain⟨I,J⟩:=Hx (a:=x) (b:=u) (by omega) (by omega);rw[g,i,d,cF,cF,cB (by decide),cB (by decide),eR];simp only[Fm.cZ,dk,eD,gz,kf,cz,JR,NW];rw[q1,G,I,J,cz,cz,cz]
   by_cases hm:yA x u=0
   ·rw[gg hm,hm,cB (by decide)];exact j8.yes rfl rfl rfl H hy (by have:=t.abf;omega)
   ·rw[iP hm,cG (by rw[cR];exact hm)];exact j8.no hm rfl rfl rfl
def Us.has{l:List Int}{m:Nat}(h:Us l m):rz l=some (m.testBit 0)/\dr (nI .u32 (m:Int) 1) 0=m.testBit 0:=by
 have hm:=h.mem 0;constructor
 ·unfold rz;simp only[cT];cases l with
  |nil=>
   rw[cB (by simp)];cases b:m.testBit 0 with
   |false=>rfl|true=>rw[b] at hm;simp at hm
  |cons a l=>
   rw[cG (by simp)];simp only[dk,gz,cz]
   congr 1
   rw[yU,eH,<-hm];constructor
   ·rintro rfl;simp
   ·intro hh;rcases jz.1 hh with hh|hh
    ·exact hh.symm
    ·cases h.V2 with
     |cons s1 _=>
      have:=s1 0 (by simpa using hh);have:=h.pos a (by simp);omega
 ·rw[show(1:Int)=((1:Nat):Int)from rfl,IV h.lt (by omega)];rw[yU,cR,Nat.testBit_zero,Nat.and_one_is_mod];simp only[kR];omega
def Uf(n:Nat)(c:cY)(s:Ty)(a:Pf):c0 (n+2) c (.mk 8 0 s [] [] [a])=gd (cA (dt c 1 0) λk=>if(dr k 0)=true then some (fx,[],k)else cA (ee c [s]) λh=>cN (dd n h a) λf g=>if(dr g 0)=true then some (fx,[],g)else cA (js 4 s f.cK) λi=>cA (fi f.eS 1) λj=>some (i,j,0)) λb d e=>some (b,d,e):=by
 rw[c0];show gd (k9 (n+1) c (.mk 8 0 s [] [] [a])) (λb d e=>some (b,d,e))=_;rw[k9];rfl
def PM(n:Nat)(c:cY)(s:Ty)(a:Pf):c0 (n+2) c (.mk 12 0 s [] [] [a])=gd (cA (dt c 1 0) λl=>if(dr l 0)=true then some (fx,[],l)else cA (ee c [s]) λh=>cN (dd n h a) λf g=>if(dr g 0)=true then some (fx,[],g)else cA (rz f.eS) λi=>if i=true then some (fx,[],12)else cA (js 6 s f.cK) λj=>cA (fi f.eS 1) λk=>some (j,k,0)) λb d e=>some (b,d,e):=by
 rw[c0];show gd (k9 (n+1) c (.mk 12 0 s [] [] [a])) (λb d e=>some (b,d,e))=_;rw[k9];rfl
def Gw(L:List Fm)(s:Ty)(a:Pf)(g:List Ty)(hs:List Fm):m5 L 8 0 s [] [] (Pf.rl L [a]) g hs=sq (16<g.length+1) 3 (pbind (a.inf L (g++[s]) (hs.map (Fm.up 0 1))) λb m=>.inl (.mk 4 s [] [b],m/2)):=rfl
def PS(L:List Fm)(s:Ty)(a:Pf)(g:List Ty)(hs:List Fm):m5 L 12 0 s [] [] (Pf.rl L [a]) g hs=sq (16<g.length+1) 3 (pbind (a.inf L (g++[s]) (hs.map (Fm.up 0 1))) λb m=>sq (m.testBit 0=true) 12 (.inl (.mk 6 s [] [b],m/2))):=rfl
def U2(n:Nat)(L:List Fm)(s:Ty)(a:Pf)(p:cJ):nX (n+1) L (.mk 8 0 s [] [] [a]) p=cA (dq p.eu 1 0) λf=>if(dr f 0)=true then some (⟨fx,0⟩,f)else cA (eg p [s]) λd=>cN (dv n L a d) λb c=>if(dr c 0)=true then some (⟨fx,0⟩,c)else cA (dS b.eS 1) λe=>some (⟨.mk 4 s [] [b.cK],e⟩,0):=by
 show fH (n+1) L (.mk 8 0 s [] [] [a]) p=_;rw[fH];rfl
def QW(n:Nat)(L:List Fm)(s:Ty)(a:Pf)(p:cJ):nX (n+1) L (.mk 12 0 s [] [] [a]) p=cA (dq p.eu 1 0) λf=>if(dr f 0)=true then some (⟨fx,0⟩,f)else cA (eg p [s]) λd=>cN (dv n L a d) λb c=>if(dr c 0)=true then some (⟨fx,0⟩,c)else if(dr (nI .u32 b.eS 1) 0)=true then some (⟨fx,0⟩,12)else cA (dS b.eS 1) λe=>some (⟨.mk 6 s [] [b.cK],e⟩,0):=by
 show fH (n+1) L (.mk 12 0 s [] [] [a]) p=_;rw[fH];rfl
def Mx{L:List Fm}{s:Ty}(hs:s.err=0){a:Pf}{N:Nat}(t:hJ L a N):hJ L (.mk 8 0 s [] [] [a]) (N+5):=by
 refine hJ.of λn n' hn u p c h=>?_;rw[show n'+4=n'+2+2 from rfl,Uf,Gw,U2];rcases h.room (v:=1) (k:=0) (by omega) (by omega)with⟨b,d,r,_⟩|⟨b,d,r⟩
 ·have b:dq p.eu 1 0=some 0:=b;have d:dt c 1 0=some 0:=d;rw[b,d,cz,cz,cB nz,cB nz,jq (by omega)];obtain⟨w,x,y,z,A,B,C⟩:=h.below hs r;rw[y,z,cz,cz];have hi:=t (n+3) (n'+2) (by omega) (by omega) w x A;rw[B,C] at hi;rcases hi with⟨e,he,g,i,j⟩|⟨f,m,l,g,i,j,hu,o⟩
  ·rw[g,i,j,cF,cF,cG (by rw[cR];exact he),cG (by rw[cR];exact he)];exact j8.no he rfl rfl rfl
  ·have D:=o.abf;have E:=f.hZ o.ok;have F:=dM hs;obtain⟨G,H,I⟩:=hu.out (by have:=hu.len;omega) (k:=1) (by omega);rw[g,i,j,cF,cF,cB nz,cB nz,eR];simp only[];rw[EK (by omega) (by omega),cz,show(1:Int)=((1:Nat):Int)from rfl,G,H];refine j8.yes rfl rfl rfl I (.q (.inl rfl) hs o.ty) ?_;rw[Fm.cI];simp only[cX];omega
 ·have b:dq p.eu 1 0=some 3:=b;have d:dt c 1 0=some 3:=d;have J:=h.pl.nh;rw[b,d,cz,cz,cG (by decide),cG (by decide),jX (by omega)];exact j8.no (by decide) rfl rfl rfl
def JM{L:List Fm}{s:Ty}(hs:s.err=0){a:Pf}{N:Nat}(u:hJ L a N):hJ L (.mk 12 0 s [] [] [a]) (N+5):=by
 refine hJ.of λn n' hn w p c h=>?_;rw[show n'+4=n'+2+2 from rfl,PM,PS,QW];rcases h.room (v:=1) (k:=0) (by omega) (by omega)with⟨b,d,t,_⟩|⟨b,d,t⟩
 ·have b:dq p.eu 1 0=some 0:=b;have d:dt c 1 0=some 0:=d;rw[b,d,cz,cz,cB nz,cB nz,jq (by omega)];obtain⟨x,y,z,A,B,C,D⟩:=h.below hs t;rw[z,A,cz,cz];have hi:=u (n+3) (n'+2) (by omega) (by omega) x y B;rw[C,D] at hi;rcases hi with⟨e,he,i,j,o⟩|⟨f,m,l,i,j,o,hu,r⟩
  ·rw[i,j,o,cF,cF,cG (by rw[cR];exact he),cG (by rw[cR];exact he)];exact j8.no he rfl rfl rfl
  ·have E:=r.abf;have F:=f.hZ r.ok;have G:=dM hs;obtain⟨H,I,J⟩:=hu.out (by have:=hu.len;omega) (k:=1) (by omega);obtain⟨K,M⟩:=hu.has;rw[i,j,o,cF,cF,cB nz,cB nz,eR];simp only[];rw[K,M,cz]
   by_cases g:m.testBit 0=true
   ·rw[jX g,cG g,cG g];exact j8.no (by decide) rfl rfl rfl
   ·rw[jq g,cB g,cB g,EK (by omega) (by omega),cz,show(1:Int)=((1:Nat):Int)from rfl,H,I];refine j8.yes rfl rfl rfl J (.q (.inr (.inr (.inl rfl))) hs r.ty) ?_;rw[Fm.cI];simp only[cX];omega
 ·have b:dq p.eu 1 0=some 3:=b;have d:dt c 1 0=some 3:=d;have O:=h.pl.nh;rw[b,d,cz,cz,cG (by decide),cG (by decide),jX (by omega)];exact j8.no (by decide) rfl rfl rfl
def JO(a b:Ty):a.jA b=b.jA a:=by
 rw[yU,Ty.jj,Ty.jj];exact⟨Eq.symm,Eq.symm⟩
def m_{a b:Ty}(d:a.err=0)(c:b.err=0):fK (qw a) b=some (a.jA b)/\dR FU b a=some (a.jA b):=by
 have e:=dM d;have f:=dM c;constructor
 ·unfold fK;rw[jD c,cz,pS (by omega)];rfl
 ·rw[gl (by omega),JO]
def XE(n:Nat)(c:cY)(t:Tm)(a:Pf):c0 (n+2) c (.mk 9 0 .z [t] [] [a])=gd (cN (kb c.abh t) λp o=>if(dr o 0)=true then some (fx,[],o)else cN (dd n c a) λf g=>if(dr g 0)=true then some (fx,[],g)else cA (j7 t) λh=>cA (e_ f.eS h) λi=>if(dr f.cK.abd 4)=true then some (fx,[],10)else cA (dR FU f.cK.cD p) λj=>if j=true then cA (c_ f.cK.abe 0) λk=>cN (jk k t) λl m=>some (l,i,m)else some (fx,[],7)) λb d e=>some (b,d,e):=by
 rw[c0];show gd (lT (n+1) c (.mk 9 0 .z [t] [] [a])) (λb d e=>some (b,d,e))=_;rw[lT];rfl
def Sn(n:Nat)(c:cY)(t:Tm)(a:Pf):c0 (n+2) c (.mk 13 0 .z [t] [] [a])=gd (cN (kb c.abh t) λo m=>if(dr m 0)=true then some (fx,[],m)else cN (dd n c a) λb g=>if(dr g 0)=true then some (fx,[],g)else cA (j7 t) λh=>cA (e_ b.eS h) λp=>if(dr b.cK.abd 6)=true then some (fx,[],10)else cA (dR FU b.cK.cD o) λi=>if i=true then cA (c_ b.cK.abe 0) λj=>cN (jk j t) λk l=>some (k,b.eS,l)else some (fx,[],7)) λd e f=>some (d,e,f):=by
 rw[c0];show gd (lT (n+1) c (.mk 13 0 .z [t] [] [a])) (λd e f=>some (d,e,f))=_;rw[lT];rfl
def WM(L:List Fm)(t:Tm)(a:Pf)(g:List Ty)(hs:List Fm):m5 L 9 0 .z [t] [] (Pf.rl L [a]) g hs=kc (t.ty g).2 (pbind (Ci (a.inf L g hs) 4) λa m=>sq ((t.ty g).1.jA a.cD=false) 7 (kc (kO (a.abe.getD 0 fx) t).2 (.inl ((kO (a.abe.getD 0 fx) t).1,m|||q8 t)))):=rfl
def Ts(L:List Fm)(t:Tm)(a:Pf)(g:List Ty)(hs:List Fm):m5 L 13 0 .z [t] [] (Pf.rl L [a]) g hs=kc (t.ty g).2 (pbind (Ci (a.inf L g hs) 6) λa m=>sq ((t.ty g).1.jA a.cD=false) 7 (kc (kO (a.abe.getD 0 fx) t).2 (.inl ((kO (a.abe.getD 0 fx) t).1,m)))):=rfl
def Yh(n:Nat)(L:List Fm)(t:Tm)(a:Pf)(p:cJ):nX (n+1) L (.mk 9 0 .z [t] [] [a]) p=cN (du FU p.abh t) λj i=>if(dr i 0)=true then some (⟨fx,0⟩,i)else cA (iN t) λd=>cN (dx n L a p 4) λb c=>if(dr c 0)=true then some (⟨fx,0⟩,c)else cA (fK j b.cK.cD) λe=>if e=true then cA (c_ b.cK.abe 0) λf=>cN (gJ f t) λg h=>some (⟨g,tO .u32 b.eS d⟩,h)else some (⟨fx,0⟩,7):=by
 show fG (n+1) L (.mk 9 0 .z [t] [] [a]) p=_;rw[fG];rfl
def S'(n:Nat)(L:List Fm)(t:Tm)(a:Pf)(p:cJ):nX (n+1) L (.mk 13 0 .z [t] [] [a]) p=cN (du FU p.abh t) λi h=>if(dr h 0)=true then some (⟨fx,0⟩,h)else cA (iN t) λj=>cN (dx n L a p 6) λb c=>if(dr c 0)=true then some (⟨fx,0⟩,c)else cA (fK i b.cK.cD) λd=>if d=true then cA (c_ b.cK.abe 0) λe=>cN (gJ e t) λf g=>some (⟨f,tO .u32 b.eS 0⟩,g)else some (⟨fx,0⟩,7):=by
 show fG (n+1) L (.mk 13 0 .z [t] [] [a]) p=_;rw[fG];rfl
def H8{m:Nat}(h:m<4294967296):tO .u32 (m:Int) 0=(m:Int):=by
 rw[show(0:Int)=((0:Nat):Int)from rfl,Hv h (by omega),Nat.or_zero]
def vo{t:Tm}(b:t.err=0){g:List Ty}(c:iu g):(∃e,e≠0/\(t.ty g).2=e/\∃z,t.ty g=(z,e))\/∃s,t.ty g=(s,0)/\dF g t s/\s.err=0:=by
 obtain⟨s,e,a⟩:∃s e,t.ty g=(s,e):=⟨_,_,rfl⟩
 by_cases he:e=0
 ·subst he;obtain⟨d,f⟩:=ov _ t (hO _) (Tm.fj b).1 g c s a;exact .inr ⟨s,a,d,f⟩
 ·exact .inl ⟨e,he,by rw[a],s,a⟩
def NJ{L:List Fm}{t:Tm}(d:t.err=0){a:Pf}{N:Nat}(E:hJ L a N):hJ L (.mk 9 0 .z [t] [] [a]) (N+5):=by
 refine hJ.of λn n' hn F p c h=>?_;have g:=h.pl.nv;rw[show n'+4=n'+2+2 from rfl,XE,WM,Yh,h.pl.abh,(lb h.pl.ctx g d).1,(lb h.pl.ctx g d).2];rcases vo d h.pl.ctx with⟨e,he,q1,z,G⟩|⟨s,q1,j,hs⟩
 ·rw[G,j5 he,cF,cF,cG (by rw[cR];exact he),cG (by rw[cR];exact he),iP he];exact j8.no he rfl rfl rfl
 ·obtain⟨K,f1,f2,f3⟩:=tQ g j d;rw[q1,m9,cF,cF,cB nz,cB nz,gg rfl,f1,cz];rcases ll (E (n+2) (n'+2) (by omega) (by omega) p c h) 4 with⟨e,he,o,r,i⟩|⟨f,m,l,o,r,i,hu,B,u⟩
  ·rw[o,r,cF,cG (by rw[cR];exact he)];rcases i with i|⟨f,l,m,i,u,rfl,hu⟩
   ·rw[i,cF,cG (by rw[cR];exact he)];exact j8.no he rfl rfl rfl
   ·obtain⟨q,v,_⟩:=hu.union f3 (by have:=hu.len;omega) (by have:=f3.len;omega);rw[i,cF,cB nz,f2,cz,v,cz,cG (by rw[cR];exact u)];exact j8.no he rfl rfl rfl
  ·obtain⟨C,x,rfl,k,D⟩:=B.ty.BC u (.inl rfl);have w:=B.sub (x:=x) (by simp) D;obtain⟨q,v,H,I,_⟩:=hu.union f3 (by have:=hu.len;omega) (by have:=f3.len;omega);rw[o,r,i,cF,cF,cB nz,cB nz,f2,cz,eR];simp only[Fm.df,Fm.dI,Fm.cZ,dk,gz,cz,JR];rw[v,H,cz,cB (show¬dr 4 4=true by decide),(m_ hs k).1,(m_ hs k).2,cz,cz]
   by_cases b:s.jA C=true
   ·have:=(Ty.jj s C).1 b;subst this;have y:oC c.abh x t:=⟨w.err,d,s,D,j⟩;rw[jq (by rw[b];decide),cG b,cG b,(y.both (by omega)).1,(y.both (by omega)).2];rcases lD x t with A|⟨J,A⟩
    ·rw[A,cF,cF,iP (by decide)];exact j8.no (by decide) rfl rfl rfl
    ·rw[A,cF,cF,gg rfl];exact j8.yes (f:=Fm.ia 0 x t) rfl rfl rfl I y.put (by omega)
   ·rw[jX (by simpa using b),cB b,cB b];exact j8.no (by decide) rfl rfl rfl
def LS{L:List Fm}{t:Tm}(d:t.err=0){a:Pf}{N:Nat}(E:hJ L a N):hJ L (.mk 13 0 .z [t] [] [a]) (N+5):=by
 refine hJ.of λn n' hn F p c h=>?_;have g:=h.pl.nv;rw[show n'+4=n'+2+2 from rfl,Sn,Ts,S',h.pl.abh,(lb h.pl.ctx g d).1,(lb h.pl.ctx g d).2];rcases vo d h.pl.ctx with⟨e,he,q1,z,G⟩|⟨s,q1,j,hs⟩
 ·rw[G,j5 he,cF,cF,cG (by rw[cR];exact he),cG (by rw[cR];exact he),iP he];exact j8.no he rfl rfl rfl
 ·obtain⟨I,f1,f2,f3⟩:=tQ g j d;rw[q1,m9,cF,cF,cB nz,cB nz,gg rfl,f1,cz];rcases ll (E (n+2) (n'+2) (by omega) (by omega) p c h) 6 with⟨e,he,o,r,i⟩|⟨f,m,l,o,r,i,hu,B,u⟩
  ·rw[o,r,cF,cG (by rw[cR];exact he)];rcases i with i|⟨f,l,m,i,u,rfl,hu⟩
   ·rw[i,cF,cG (by rw[cR];exact he)];exact j8.no he rfl rfl rfl
   ·obtain⟨q,v,_⟩:=hu.union f3 (by have:=hu.len;omega) (by have:=f3.len;omega);rw[i,cF,cB nz,f2,cz,v,cz,cG (by rw[cR];exact u)];exact j8.no he rfl rfl rfl
  ·obtain⟨C,x,rfl,k,D⟩:=B.ty.BC u (.inr (.inr (.inl rfl)));have w:=B.sub (x:=x) (by simp) D;obtain⟨q,v,_⟩:=hu.union f3 (by have:=hu.len;omega) (by have:=f3.len;omega);rw[o,r,i,cF,cF,cB nz,cB nz,f2,cz,eR];simp only[Fm.df,Fm.dI,Fm.cZ,dk,gz,cz,JR];rw[v,H8 hu.lt,cz,cB (show¬dr 6 6=true by decide),(m_ hs k).1,(m_ hs k).2,cz,cz]
   by_cases b:s.jA C=true
   ·have:=(Ty.jj s C).1 b;subst this;have y:oC c.abh x t:=⟨w.err,d,s,D,j⟩;rw[jq (by rw[b];decide),cG b,cG b,(y.both (by omega)).1,(y.both (by omega)).2];rcases lD x t with A|⟨H,A⟩
    ·rw[A,cF,cF,iP (by decide)];exact j8.no (by decide) rfl rfl rfl
    ·rw[A,cF,cF,gg rfl];exact j8.yes (f:=Fm.ia 0 x t) rfl rfl rfl hu y.put (by omega)
   ·rw[jX (by simpa using b),cB b,cB b];exact j8.no (by decide) rfl rfl rfl
def UQ(n:Nat)(c:cY)(t:Tm)(F:Fm)(a:Pf):c0 (n+2) c (.mk 10 0 .z [t] [F] [a])=gd (cA (hY c.abh F) λf=>if(dr f 0)=true then some (fx,[],f)else if(dr F.abd 5)=true then some (fx,[],10)else cN (kb c.abh t) λh g=>if(dr g 0)=true then some (fx,[],g)else cA (dR FU F.cD h) λi=>if i=true then cA (c_ F.abe 0) λj=>cN (dU n c a j t) λk l=>cA (j7 t) λm=>cA (e_ k m) λo=>some (F,o,l)else some (fx,[],7)) λb d e=>some (b,d,e):=by
 rw[c0];show gd (lU (n+1) c (.mk 10 0 .z [t] [F] [a])) (λb d e=>some (b,d,e))=_;rw[lU];rfl
def T_(n:Nat)(c:cY)(t:Tm)(F:Fm)(a:Pf):c0 (n+2) c (.mk 14 0 .z [t] [F] [a])=gd (cA (hY c.abh F) λf=>if(dr f 0)=true then some (fx,[],f)else if(dr F.abd 7)=true then some (fx,[],10)else cN (kb c.abh t) λh g=>if(dr g 0)=true then some (fx,[],g)else cA (dR FU F.cD h) λi=>if i=true then cA (c_ F.abe 0) λj=>cN (dU n c a j t) λk l=>some (F,k,l)else some (fx,[],7)) λb d e=>some (b,d,e):=by
 rw[c0];show gd (lU (n+1) c (.mk 14 0 .z [t] [F] [a])) (λb d e=>some (b,d,e))=_;rw[lU];rfl
def N0(L:List Fm)(t:Tm)(F:Fm)(a:Pf)(g:List Ty)(hs:List Fm):m5 L 10 0 .z [t] [F] (Pf.rl L [a]) g hs=kc (F.sD g) (sq (F.abd≠5) 10 (kc (t.ty g).2 (sq ((t.ty g).1.jA F.cD=false) 7 (pbind (E5 (a.inf L g hs) (F.abe.getD 0 fx) t) λ_ m=>.inl (F,m|||q8 t))))):=rfl
def S9(L:List Fm)(t:Tm)(F:Fm)(a:Pf)(g:List Ty)(hs:List Fm):m5 L 14 0 .z [t] [F] (Pf.rl L [a]) g hs=kc (F.sD g) (sq (F.abd≠7) 10 (kc (t.ty g).2 (sq ((t.ty g).1.jA F.cD=false) 7 (pbind (E5 (a.inf L g hs) (F.abe.getD 0 fx) t) λ_ m=>.inl (F,m))))):=rfl
def Uo(n:Nat)(L:List Fm)(t:Tm)(F:Fm)(a:Pf)(p:cJ):nX (n+1) L (.mk 10 0 .z [t] [F] [a]) p=cA (ds FU p.abh F) λc=>if(dr c 0)=true then some (⟨fx,0⟩,c)else if(dr F.abd 5)=true then some (⟨fx,0⟩,10)else cN (du FU p.abh t) λh d=>if(dr d 0)=true then some (⟨fx,0⟩,d)else cA (fK h F.cD) λi=>if i=true then cA (c_ F.abe 0) λe=>cN (dz n L a p e t) λf b=>if(dr b 0)=true then some (⟨fx,0⟩,b)else cA (iN t) λg=>some (⟨F,tO .u32 f.eS g⟩,0)else some (⟨fx,0⟩,7):=by
 show fR (n+1) L (.mk 10 0 .z [t] [F] [a]) p=_;rw[fR];rfl
def U3(n:Nat)(L:List Fm)(t:Tm)(F:Fm)(a:Pf)(p:cJ):nX (n+1) L (.mk 14 0 .z [t] [F] [a]) p=cA (ds FU p.abh F) λc=>if(dr c 0)=true then some (⟨fx,0⟩,c)else if(dr F.abd 7)=true then some (⟨fx,0⟩,10)else cN (du FU p.abh t) λg d=>if(dr d 0)=true then some (⟨fx,0⟩,d)else cA (fK g F.cD) λh=>if h=true then cA (c_ F.abe 0) λe=>cN (dz n L a p e t) λf b=>if(dr b 0)=true then some (⟨fx,0⟩,b)else some (⟨F,tO .u32 f.eS 0⟩,0)else some (⟨fx,0⟩,7):=by
 show fR (n+1) L (.mk 14 0 .z [t] [F] [a]) p=_;rw[fR];rfl
def MV{L:List Fm}{t:Tm}(d:t.err=0){F:Fm}(hF:F.err=0){a:Pf}{N:Nat}(G:hJ L a N):hJ L (.mk 10 0 .z [t] [F] [a]) (N+5):=by
 refine hJ.of λn n' hn H p c h=>?_;have g:=h.pl.nv;obtain⟨t1,_,t2⟩:=qb h.pl.ctx (by omega) hF;have I:=(Fm.fj hF).2;rw[show n'+4=n'+2+2 from rfl,UQ,N0,Uo,h.pl.abh,(lb h.pl.ctx g d).1,(lb h.pl.ctx g d).2,t1,t2 g,cz,cz]
 by_cases j:F.sD c.abh=0
 ·have o:¬dr (F.sD c.abh) 0=true:=by rw[cR];simpa using j
  rw[cB o,cB o,gg j];have i:=qa F (Fm.fj hF).1 c.abh h.pl.ctx j
  by_cases k:F.abd=5
  ·have o:¬dr F.abd 5=true:=by rw[cR];simpa using k
   rw[cB o,cB o,jq (by simpa using k)];rcases vo d h.pl.ctx with⟨e,he,q1,z,J⟩|⟨s,q1,r,hs⟩
   ·rw[J,j5 he,cF,cF,cG (by rw[cR];exact he),cG (by rw[cR];exact he),iP he];exact j8.no he rfl rfl rfl
   ·obtain⟨v,x,rfl,u,E⟩:=i.BC k (.inr (.inl rfl));have w:Hg c.abh (.mk 5 v [] [x]):=⟨hF,i⟩;have y:=w.sub (x:=x) (by simp) E;obtain⟨P,f1,f2,f3⟩:=tQ g r d;rw[q1,m9,cF,cF,cB nz,cB nz,gg rfl];simp only[Fm.df,Fm.dI,Fm.cZ,dk,gz,cz,JR];rw[(m_ hs u).1,(m_ hs u).2,cz,cz]
    by_cases b:s.jA v=true
    ·have:=(Ty.jj s v).1 b;subst this;have K:oC c.abh x t:=⟨y.err,d,s,E,r⟩;rw[jq (by rw[b];decide),cG b,cG b];rcases qf g (G (n+2) (n'+1) (by omega) (by omega) p c h) K with⟨e,z,l,m,he,A,B,C,hu⟩|⟨f,m,l,A,B,C,hu⟩
     ·obtain⟨q,D,_⟩:=hu.union f3 (by have:=hu.len;omega) (by have:=f3.len;omega);rw[A,B,C,cF,cF,cG (by rw[cR];exact he),f2,cz,D];exact j8.no he rfl rfl rfl
     ·obtain⟨q,D,M,O,_⟩:=hu.union f3 (by have:=hu.len;omega) (by have:=f3.len;omega);rw[A,B,C,cF,cF,cB nz,f1,f2,cz,cz,eR];simp only[];rw[D,M];exact j8.yes rfl rfl rfl O i (by omega)
    ·rw[jX (by simpa using b),cB b,cB b];exact j8.no (by decide) rfl rfl rfl
  ·rw[cG (by rw[cR];exact k),cG (by rw[cR];exact k),jX k];exact j8.no (by decide) rfl rfl rfl
 ·rw[cG (by rw[cR];exact j),cG (by rw[cR];exact j),iP j];exact j8.no j rfl rfl rfl
def L1{L:List Fm}{t:Tm}(g:t.err=0){F:Fm}(hF:F.err=0){a:Pf}{N:Nat}(D:hJ L a N):hJ L (.mk 14 0 .z [t] [F] [a]) (N+5):=by
 refine hJ.of λn n' hn E p c h=>?_;have i:=h.pl.nv;obtain⟨t1,_,t2⟩:=qb h.pl.ctx (by omega) hF;have G:=(Fm.fj hF).2;rw[show n'+4=n'+2+2 from rfl,T_,S9,U3,h.pl.abh,(lb h.pl.ctx i g).1,(lb h.pl.ctx i g).2,t1,t2 i,cz,cz]
 by_cases j:F.sD c.abh=0
 ·have o:¬dr (F.sD c.abh) 0=true:=by rw[cR];simpa using j
  rw[cB o,cB o,gg j];have d:=qa F (Fm.fj hF).1 c.abh h.pl.ctx j
  by_cases k:F.abd=7
  ·have o:¬dr F.abd 7=true:=by rw[cR];simpa using k
   rw[cB o,cB o,jq (by simpa using k)];rcases vo g h.pl.ctx with⟨e,he,q1,z,H⟩|⟨s,q1,r,hs⟩
   ·rw[H,j5 he,cF,cF,cG (by rw[cR];exact he),cG (by rw[cR];exact he),iP he];exact j8.no he rfl rfl rfl
   ·obtain⟨u,x,rfl,q,C⟩:=d.BC k (.inr (.inr (.inr rfl)));have v:Hg c.abh (.mk 7 u [] [x]):=⟨hF,d⟩;have w:=v.sub (x:=x) (by simp) C;rw[q1,m9,cF,cF,cB nz,cB nz,gg rfl];simp only[Fm.df,Fm.dI,Fm.cZ,dk,gz,cz,JR];rw[(m_ hs q).1,(m_ hs q).2,cz,cz]
    by_cases b:s.jA u=true
    ·have:=(Ty.jj s u).1 b;subst this;have I:oC c.abh x t:=⟨w.err,g,s,C,r⟩;rw[jq (by rw[b];decide),cG b,cG b];rcases qf i (D (n+2) (n'+1) (by omega) (by omega) p c h) I with⟨e,z,l,m,he,y,A,B,hu⟩|⟨f,m,l,y,A,B,hu⟩
     ·rw[y,A,B,cF,cF,cG (by rw[cR];exact he)];exact j8.no he rfl rfl rfl
     ·rw[y,A,B,cF,cF,cB nz,eR];simp only[];rw[H8 hu.lt];exact j8.yes rfl rfl rfl hu d (by omega)
    ·rw[jX (by simpa using b),cB b,cB b];exact j8.no (by decide) rfl rfl rfl
  ·rw[cG (by rw[cR];exact k),cG (by rw[cR];exact k),jX k];exact j8.no (by decide) rfl rfl rfl
 ·rw[cG (by rw[cR];exact j),cG (by rw[cR];exact j),iP j];exact j8.no j rfl rfl rfl
def Ln(k:Fm->Option (Fm×List Int×Int))(f:Fm):Option (Fm×List Int×Int):=
 cA (qq FU f 0) λc=>if c=true then cN (nS FU f) λa b=>if(dr b 0)=true then some (fx,[],b)else cA (qq FU a 0) λd=>if d=true then some (fx,[],6)else k (.mk a.abd (.mk a.cD.abd a.cD.abe) a.cU a.abe)else k (.mk f.abd (.mk f.cD.abd f.cD.abe) f.cU f.abe)
def OB(n:Nat)(c:cY)(a b:Pf):c0 (n+2) c (.mk 11 0 .z [] [] [a,b])=gd (cN (dd n c a) λh i=>if(dr i 0)=true then some (fx,[],i)else if(dr h.cK.abd 5)=true then some (fx,[],10)else cA (dt c 1 1) λj=>if(dr j 0)=true then some (fx,[],j)else cA (ee c [h.cK.cD]) λq=>cA (c_ h.cK.abe 0) λr=>cA (fk q r) λs=>cN (dd n s b) λk l=>if(dr l 0)=true then some (fx,[],l)else Ln (λf=>cA (gN FU f 1 (-1)) λm=>cA (fi k.eS 1) λo=>cA (e_ h.eS o) λp=>some (m,p,0)) k.cK) λd e g=>some (d,e,g):=by
 rw[c0];show gd (kA (n+1) c (.mk 11 0 .z [] [] [a,b])) (λd e g=>some (d,e,g))=_;rw[kA];rfl
def OY(n:Nat)(c:cY)(a b:Pf):c0 (n+2) c (.mk 15 0 .z [] [] [a,b])=gd (cN (dd n c a) λh j=>if(dr j 0)=true then some (fx,[],j)else if(dr h.cK.abd 7)=true then some (fx,[],10)else cA (dt c 1 1) λk=>if(dr k 0)=true then some (fx,[],k)else cA (ee c [h.cK.cD]) λr=>cA (c_ h.cK.abe 0) λs=>cA (fk r s) λt=>cN (dd n t b) λi l=>if(dr l 0)=true then some (fx,[],l)else Ln (λf=>cA (rz i.eS) λm=>if m=true then some (fx,[],12)else cA (gN FU f 1 (-1)) λo=>cA (fi i.eS 1) λp=>cA (e_ h.eS p) λq=>some (o,q,0)) i.cK) λd e g=>some (d,e,g):=by
 rw[c0];show gd (kA (n+1) c (.mk 15 0 .z [] [] [a,b])) (λd e g=>some (d,e,g))=_;rw[kA];rfl
def NH(L:List Fm)(a b:Pf)(g:List Ty)(hs:List Fm):m5 L 11 0 .z [] [] (Pf.rl L [a,b]) g hs=pbind (Ci (a.inf L g hs) 5) λa m=>sq (16<g.length+1\/16<hs.length+1) 3 (pbind (b.inf L (g++[a.cD]) (hs.map (Fm.up 0 1)++[a.abe.getD 0 fx])) λb n=>kc (DE b).2 (.inl ((DE b).1,m|||n/2))):=rfl
def O3(L:List Fm)(a b:Pf)(g:List Ty)(hs:List Fm):m5 L 15 0 .z [] [] (Pf.rl L [a,b]) g hs=pbind (Ci (a.inf L g hs) 7) λa m=>sq (16<g.length+1\/16<hs.length+1) 3 (pbind (b.inf L (g++[a.cD]) (hs.map (Fm.up 0 1)++[a.abe.getD 0 fx])) λb n=>kc (DE b).2 (sq (n.testBit 0=true) 12 (.inl ((DE b).1,m|||n/2)))):=rfl
def NS(n:Nat)(L:List Fm)(a b:Pf)(p:cJ):nX (n+1) L (.mk 11 0 .z [] [] [a,b]) p=cN (dx n L a p 5) λc d=>if(dr d 0)=true then some (⟨fx,0⟩,d)else cA (dq p.eu 1 1) λe=>if(dr e 0)=true then some (⟨fx,0⟩,e)else cA (eg p [c.cK.cD]) λi=>cA (c_ c.cK.abe 0) λj=>cA (eo i j) λk=>cN (dv n L b k) λf g=>if(dr g 0)=true then some (⟨fx,0⟩,g)else cN (kI f.cK) λl h=>if(dr h 0)=true then some (⟨fx,0⟩,h)else cA (dS f.eS 1) λm=>some (⟨l,tO .u32 c.eS m⟩,0):=by
 show fU (n+1) L (.mk 11 0 .z [] [] [a,b]) p=_;rw[fU];rfl
def Pa(n:Nat)(L:List Fm)(a b:Pf)(p:cJ):nX (n+1) L (.mk 15 0 .z [] [] [a,b]) p=cN (dx n L a p 7) λc e=>if(dr e 0)=true then some (⟨fx,0⟩,e)else cA (dq p.eu 1 1) λf=>if(dr f 0)=true then some (⟨fx,0⟩,f)else cA (eg p [c.cK.cD]) λi=>cA (c_ c.cK.abe 0) λj=>cA (eo i j) λk=>cN (dv n L b k) λd g=>if(dr g 0)=true then some (⟨fx,0⟩,g)else cN (kI d.cK) λl h=>if(dr h 0)=true then some (⟨fx,0⟩,h)else if(dr (nI .u32 d.eS 1) 0)=true then some (⟨fx,0⟩,12)else cA (dS d.eS 1) λm=>some (⟨l,tO .u32 c.eS m⟩,0):=by
 show fU (n+1) L (.mk 15 0 .z [] [] [a,b]) p=_;rw[fU];rfl
def Ih{g:List Ty}{s:Ty}{f:Fm}(h:Hg (g++[s]) f)(hg:g.length<=1000)(k:Fm->Option (Fm×List Int×Int))(k':Fm->Option (Fm×List Int×Int))(j:∀x,x.abl 0=0->x.abf<=4096*4096->x.abj 1000000000000=true->k x=k' (x.up 1 (-1))):Ln k f=if(DE f).2=0 then k' (DE f).1 else some (fx,[],(DE f).2):=by
 have hn:=h.abf;have l:f.abj 1000000000000=true:=h.ty.abj _ (by simp;omega);unfold Ln;rw[y_ FU f 0 (by rw[dP];omega) (by omega) (by omega) (by omega),cz,Ty.ke,Fm.ke]
 by_cases e:f.abl 0=0
 ·have hw:DE f=(f.up 1 (-1),0):=by unfold DE;rw[cG e]
  rw[hw,cB (show¬(decide (0<f.abl 0)=true) by simp;omega)];exact(j f e (by omega) l).trans (cG rfl).symm
 ·rw[cG (show decide (0<f.abl 0)=true by simp;omega),Cb FU f (by rw[dP];omega) (by omega) (LK.of f hn h.ok (h.ty.abj _ (by simp;omega)))];obtain⟨a,b,d⟩:∃a b,f.uA 0=(a,b):=⟨_,_,rfl⟩
  have hw:DE f=if b≠0 then(fx,b)else if a.abl 0≠0 then(fx,6)else(a.up 1 (-1),0):=by unfold DE;rw[cB e,d]
  rw[d];simp only[]
  by_cases he:b=0
  ·subst he;have c:=KP h.ty 0 (by simp;omega) hn (by rw[d]);rw[d] at c;obtain⟨_,a2,a3⟩:=c;have a2:iy (g++[s]) a:=a2;have a3:a.abf<=3000*f.abf:=a3;rw[cB (by decide)] at hw;rw[cG rfl,cF,cB nz,y_ FU a 0 (by rw[dP];omega) (by omega) (by omega) (by omega),cz,Ty.ke,Fm.ke]
   by_cases i:a.abl 0=0
   ·rw[cB (by simpa using i)] at hw;rw[hw,cB (show¬(decide (0<a.abl 0)=true) by simp;omega)];exact(j a i (by omega) (a2.abj _ (by simp;omega))).trans (cG rfl).symm
   ·rw[cG i] at hw;rw[hw,cG (show decide (0<a.abl 0)=true by simp;omega)];rfl
  ·rw[cG he] at hw
   have m:dr b 0=true:=by rw[cR];exact he
   rw[hw,cB he,cF,cG m,cB he]
def Jd{L:List Fm}{a b:Pf}{N:Nat}(M:hJ L a N)(O:hJ L b N):hJ L (.mk 11 0 .z [] [] [a,b]) (N+5):=by
 refine hJ.of λn n' hn P p c h=>?_;have Q:=h.pl.nv;rw[show n'+4=n'+2+2 from rfl,OB,NH,NS];rcases ll (M (n+2) (n'+2) (by omega) (by omega) p c h) 5 with⟨e,he,g,i,d⟩|⟨f,m,l,g,i,d,hu,E,A⟩
 ·rw[g,i,cF,cG (by rw[cR];exact he)];rcases d with d|⟨f,l,m,d,A,rfl,_⟩
  ·rw[d,cF,cG (by rw[cR];exact he)];exact j8.no he rfl rfl rfl
  ·rw[d,cF,cB nz,cG (by rw[cR];exact A)];exact j8.no he rfl rfl rfl
 ·obtain⟨s,x,rfl,hs,R⟩:=E.ty.BC A (.inr (.inl rfl));have B:=E.sub (x:=x) (by simp) R;rw[g,i,d,cF,cF,cB nz,cB nz,cB (by simp),eR];simp only[Fm.dI,Fm.cZ,dk,gz,cz,JR];rcases h.room (v:=1) (k:=1) (by omega) (by omega)with⟨j,o,F,S⟩|⟨j,o,F⟩
  ·have j:dq p.eu 1 1=some 0:=j;have o:dt c 1 1=some 0:=o;rw[j,o,cz,cz,cB nz,cB nz,jq (by omega)];obtain⟨p1,c1,T,U,V,G,H⟩:=h.below hs F;obtain⟨W,X,Y,Z,b3,b4,b5⟩:=V.with (f:=x) (by rw[G];exact B) (by rw[H];simpa using S);rw[T,U,cz,cz,Y,Z,cz,cz];have hi:=O (n+3) (n'+2) (by omega) (by omega) W X b3;rw[b4,b5,G,H] at hi;rcases hi with⟨e,he,g,i,d⟩|⟨f',I,J,g,i,d,u,r⟩
   ·rw[g,i,d,cF,cF,cG (by rw[cR];exact he),cG (by rw[cR];exact he)];exact j8.no he rfl rfl rfl
   ·obtain⟨C,D,K⟩:=u.out (by have:=u.len;omega) (k:=1) (by omega);have C:fi J 1=some (uj ((1:Nat):Int) J):=C;have D:dS (I:Int) 1=some ((I/2^1:Nat):Int):=D;obtain⟨q,v1,v2,v3,_⟩:=hu.union K (by have:=hu.len;omega) (by have:=K.len;omega);rw[g,i,d,cF,cF,cB nz,cB nz,eR];simp only[];rw[s_ r (by omega)]
    rw[Ih r (by omega) _ (λy=>some (y,q,0)) (λy y1 y2 y3=>by
     rw[zd FU y 1 (by rw[dP];omega) (by omega) (by omega) (by omega) y3,cz,C,cz,v1,cz])]
    obtain⟨w,e,hw⟩:∃w e,DE f'=(w,e):=⟨_,_,rfl⟩;rw[hw,cF]
    by_cases he:e=0
    ·subst he;have t:=Oa r (by omega) hs (by rw[hw]);rw[hw] at t;rw[cB nz,cG rfl,gg rfl,D,cz,v2];exact j8.yes rfl rfl rfl v3 t.1 (by have:=t.2;omega)
    ·rw[cG (by rw[cR];exact he),cB he,iP he];exact j8.no he rfl rfl rfl
  ·have j:dq p.eu 1 1=some 3:=j;have o:dt c 1 1=some 3:=o;rw[j,o,cz,cz,cG (by decide),cG (by decide),jX (by omega)];exact j8.no (by decide) rfl rfl rfl
def Jg{L:List Fm}{a b:Pf}{N:Nat}(Q:hJ L a N)(g:hJ L b N):hJ L (.mk 15 0 .z [] [] [a,b]) (N+5):=by
 refine hJ.of λn n' hn R p c h=>?_;have S:=h.pl.nv;rw[show n'+4=n'+2+2 from rfl,OY,O3,Pa];rcases ll (Q (n+2) (n'+2) (by omega) (by omega) p c h) 7 with⟨e,he,i,j,d⟩|⟨f,m,l,i,j,d,hu,H,C⟩
 ·rw[i,j,cF,cG (by rw[cR];exact he)];rcases d with d|⟨f,l,m,d,C,rfl,_⟩
  ·rw[d,cF,cG (by rw[cR];exact he)];exact j8.no he rfl rfl rfl
  ·rw[d,cF,cB nz,cG (by rw[cR];exact C)];exact j8.no he rfl rfl rfl
 ·obtain⟨s,x,rfl,hs,T⟩:=H.ty.BC C (.inr (.inr (.inr rfl)));have D:=H.sub (x:=x) (by simp) T;rw[i,j,d,cF,cF,cB nz,cB nz,cB (by simp),eR];simp only[Fm.dI,Fm.cZ,dk,gz,cz,JR];rcases h.room (v:=1) (k:=1) (by omega) (by omega)with⟨o,r,I,U⟩|⟨o,r,I⟩
  ·have o:dq p.eu 1 1=some 0:=o;have r:dt c 1 1=some 0:=r;rw[o,r,cz,cz,cB nz,cB nz,jq (by omega)];obtain⟨p1,J,V,W,X,K,M⟩:=h.below hs I;obtain⟨Y,E,Z,b2,b3,b4,b5⟩:=X.with (f:=x) (by rw[K];exact D) (by rw[M];simpa using U);rw[V,W,cz,cz,Z,b2,cz,cz];have hi:=g (n+3) (n'+2) (by omega) (by omega) Y E b3;rw[b4,b5,K,M] at hi;rcases hi with⟨e,he,i,j,d⟩|⟨f',B,O,i,j,d,t,u⟩
   ·rw[i,j,d,cF,cF,cG (by rw[cR];exact he),cG (by rw[cR];exact he)];exact j8.no he rfl rfl rfl
   ·obtain⟨F,G,P⟩:=t.out (by have:=t.len;omega) (k:=1) (by omega);have F:fi O 1=some (uj ((1:Nat):Int) O):=F;have G:dS (B:Int) 1=some ((B/2^1:Nat):Int):=G;obtain⟨q,v1,v2,v3,_⟩:=hu.union P (by have:=hu.len;omega) (by have:=P.len;omega);rw[i,j,d,cF,cF,cB nz,cB nz,eR];simp only[];rw[s_ u (by omega)];obtain⟨J,E⟩:=t.has
    rw[Ih u (by omega) _ (λy=>if B.testBit 0=true then some (fx,[],12)else some (y,q,0)) (λy y1 y2 y3=>by
     rw[J,cz,zd FU y 1 (by rw[dP];omega) (by omega) (by omega) (by omega) y3,cz,F,cz,v1,cz])]
    obtain⟨w,e,hw⟩:∃w e,DE f'=(w,e):=⟨_,_,rfl⟩;rw[hw,cF]
    by_cases he:e=0
    ·subst he;have A:=Oa u (by omega) hs (by rw[hw]);rw[hw] at A;rw[cB nz,cG rfl,gg rfl,E]
     by_cases g:B.testBit 0=true
     ·rw[jX g,cG g,cG g];exact j8.no (by decide) rfl rfl rfl
     ·rw[jq g,cB g,cB g,G,cz,v2];exact j8.yes rfl rfl rfl v3 A.1 (by have:=A.2;omega)
    ·rw[cG (by rw[cR];exact he),cB he,iP he];exact j8.no he rfl rfl rfl
  ·have o:dq p.eu 1 1=some 3:=o;have r:dt c 1 1=some 3:=r;rw[o,r,cz,cz,cG (by decide),cG (by decide),jX (by omega)];exact j8.no (by decide) rfl rfl rfl
def iu.nat{g:List Ty}(h:iu g):iu (g++[.nat]):=h.app Ty.fZ
def iu.mT{g:List Ty}(h:iu g):iu (g++[.mT]):=h.app Ty.nO
def G7{g:List Ty}(d:iu g){t:Tm}(f:t.err=0){s:Ty}(hs:s=.nat\/s=.mT)(h:mP t g s.abd=0):dF g t s:=by
 rcases vo f d with⟨e,he,q1,z,j⟩|⟨c,q1,i,a⟩
 ·unfold mP at h;rw[q1,cB (λh=>he h.1)] at h;exact absurd h he
 ·unfold mP at h;rw[q1] at h;simp only[Xh] at h
  by_cases b:c.abd=s.abd
  ·have:c=s:=by
    rcases hs with rfl|rfl
    ·exact(se a).1 b
    ·exact(zm a).1 b
   rwa [<-this]
  ·rw[cG b] at h;cases h
def rk{F:Fm}(hF:F.err=0)(a:F.abj 1000000000=true){f c:Nat}(b:f<=100)(d:c<=100):dY F (f:Int) (c:Int)=some (F.up f c)/\gN FU F (f:Int) (c:Int)=some (F.up f c):=by
 obtain⟨a1,a2⟩:=Fm.fj hF;exact⟨q7 a1 (by omega) (Fm.kH _ (by omega) a) (by omega) (by omega) (by omega) (by omega),Bu FU F f c (by rw[dP];omega) (by omega) (by omega) (by omega) (by omega) (by omega) (Fm.kH _ (by omega) a)⟩
def GZ{F:Fm}(hF:F.err=0){f c:Int}(a:0<=f)(b:0<=c):(F.up f c).err=0:=by
 obtain⟨a1,a2⟩:=Fm.fj hF;unfold Fm.err;rw[Fm.BI F f c a b,a1,cG rfl,Fm.mA,cB (by omega)]
def oE{F:Fm}{f:Int}:F.up f 0=F:=Fm.HT F f
def W_:wa.err=0:=by decide
def PL:(Tm.mk 7 0 .z []).err=0:=by decide
def UH:(vZ v0).err=0:=by decide
def St:(Tm.mk 8 0 .z [v1,v0]).err=0:=by decide
def LO{L:List Fm}{p:cJ}{c:cY}(h:PG L p c)(hn:c.abh.length+2<=16):∃b a,eg p [.nat,.mT]=some b/\ee c [.nat,.mT]=some a/\PG L b a/\a.abh=c.abh++[.nat]++[.mT]/\a.abk=c.abk.map (Fm.up 0 2):=by
 obtain⟨b,a,d,e,f,g,i⟩:=h.Na (l:=[.nat,.mT]) (λx hx=>by
  rcases jz.1 hx with rfl|hx
  ·exact Ty.fZ
  ·rw[xn.1 hx];exact Ty.nO) hn
 exact⟨b,a,d,e,f,by rw[g];simp,i⟩
def QN(n:Nat)(c:cY)(t:Tm)(F:Fm)(a b:Pf):c0 (n+2) c (.mk 16 0 .z [t] [F] [a,b])=gd (fh (eC c.abh [.nat])<|cA (jo (fp c.abh [.nat]) F) λh=>if(dr h 0)=true then some (fx,[],h)else cA (gG c t 1) λi=>if(dr i 0)=true then some (fx,[],i)else cA (eF 4 []) λy=>cN (dU n c a F y) λA j=>if(dr j 0)=true then some (fx,[],j)else cA (dt c 1 1) λk=>if(dr k 0)=true then some (fx,[],k)else cA (ee c [.nat]) λl=>cA (fk l F) λm=>cA (gN FU F 1 1) λo=>cA (eF 5 [v0]) λp=>cN (dU n m b o p) λq g=>if(dr g 0)=true then some (fx,[],g)else cN (jk F t) λr s=>cA (j7 t) λu=>cA (e_ u A) λv=>cA (fi q 1) λw=>cA (e_ v w) λx=>some (r,x,s)) λd e f=>some (d,e,f):=by
 rw[c0];show gd (pL (n+1) c (.mk 16 0 .z [t] [F] [a,b])) (λd e f=>some (d,e,f))=_;rw[pL,ed];rfl
def Qn(n:Nat)(c:cY)(t:Tm)(F:Fm)(a b:Pf):c0 (n+2) c (.mk 17 0 .z [t] [F] [a,b])=gd (fh (eC c.abh [.mT])<|cA (jo (fp c.abh [.mT]) F) λh=>if(dr h 0)=true then some (fx,[],h)else cA (gG c t 2) λi=>if(dr i 0)=true then some (fx,[],i)else cA (eF 7 []) λA=>cN (dU n c a F A) λB j=>if(dr j 0)=true then some (fx,[],j)else cA (dt c 2 1) λk=>if(dr k 0)=true then some (fx,[],k)else cA (ee c [.nat,.mT]) λl=>cA (gN FU F 1 1) λm=>cA (fk l m) λo=>cA (gN FU F 1 2) λp=>cA (eF 8 [v1,v0]) λq=>cN (dU n o b p q) λr g=>if(dr g 0)=true then some (fx,[],g)else cN (jk F t) λs u=>cA (j7 t) λv=>cA (e_ v B) λw=>cA (fi r 2) λx=>cA (e_ w x) λy=>some (s,y,u)) λd e f=>some (d,e,f):=by
 rw[c0];show gd (n_ (n+1) c (.mk 17 0 .z [t] [F] [a,b])) (λd e f=>some (d,e,f))=_;rw[n_,ed,eX];rfl
def P8(L:List Fm)(t:Tm)(F:Fm)(a b:Pf)(g:List Ty)(hs:List Fm):m5 L 16 0 .z [t] [F] (Pf.rl L [a,b]) g hs=kc (F.sD (g++[.nat])) (kc (mP t g 1) (pbind (E5 (a.inf L g hs) F wa) λ_ m=>sq (16<g.length+1\/16<hs.length+1) 3 (pbind (E5 (b.inf L (g++[.nat]) (hs.map (Fm.up 0 1)++[F])) (F.up 1 1) (vZ v0)) λ_ n=>kc (kO F t).2 (.inl ((kO F t).1,(q8 t|||m)|||n/2))))):=rfl
def QQ(L:List Fm)(t:Tm)(F:Fm)(a b:Pf)(g:List Ty)(hs:List Fm):m5 L 17 0 .z [t] [F] (Pf.rl L [a,b]) g hs=kc (F.sD (g++[.mT])) (kc (mP t g 2) (pbind (E5 (a.inf L g hs) F (.mk 7 0 .z [])) λ_ m=>sq (16<g.length+2\/16<hs.length+1) 3 (pbind (E5 (b.inf L (g++[.nat]++[.mT]) (hs.map (Fm.up 0 2)++[F.up 1 1])) (F.up 1 2) (.mk 8 0 .z [v1,v0])) λ_ n=>kc (kO F t).2 (.inl ((kO F t).1,(q8 t|||m)|||n/4))))):=rfl
def QP(n:Nat)(L:List Fm)(t:Tm)(F:Fm)(a b:Pf)(p:cJ):nX (n+1) L (.mk 16 0 .z [t] [F] [a,b]) p=cA (eG p.abh [.nat]) λs=>cA (ds FU s F) λd=>if(dr d 0)=true then some (⟨fx,0⟩,d)else cA (gn p.abh t 1) λe=>if(dr e 0)=true then some (⟨fx,0⟩,e)else cN (dz n L a p F wa) λu f=>if(dr f 0)=true then some (⟨fx,0⟩,f)else cA (dq p.eu 1 1) λg=>if(dr g 0)=true then some (⟨fx,0⟩,g)else cA (eg p [.nat]) λh=>cA (dY F 1 (dX .i64 1 1)) λi=>cA (eo h i) λj=>cA (dY F 1 1) λk=>cN (dz n L b j k (vZ v0)) λl c=>if(dr c 0)=true then some (⟨fx,0⟩,c)else cN (gJ F t) λm o=>cA (iN t) λq=>cA (dS l.eS 1) λr=>some (⟨m,tO .u32 (tO .u32 q u.eS) r⟩,o):=by
 show fT (n+1) L (.mk 16 0 .z [t] [F] [a,b]) p=_;rw[fT];simp only[Pf.df,Pf.vr,Pf.fv,Pf.cZ,dk,eD,gz,kf,cz];rw[show iw 16=some (dh.mk 1 wa [.nat] (vZ v0)) by unfold iw;rw[mX];rfl];rfl
def Q0(n:Nat)(L:List Fm)(t:Tm)(F:Fm)(a b:Pf)(p:cJ):nX (n+1) L (.mk 17 0 .z [t] [F] [a,b]) p=cA (eG p.abh [.mT]) λs=>cA (ds FU s F) λd=>if(dr d 0)=true then some (⟨fx,0⟩,d)else cA (gn p.abh t 2) λe=>if(dr e 0)=true then some (⟨fx,0⟩,e)else cN (dz n L a p F (.mk 7 0 .z [])) λu f=>if(dr f 0)=true then some (⟨fx,0⟩,f)else cA (dq p.eu 2 1) λg=>if(dr g 0)=true then some (⟨fx,0⟩,g)else cA (eg p [.nat,.mT]) λh=>cA (dY F 1 (dX .i64 2 1)) λi=>cA (eo h i) λj=>cA (dY F 1 2) λk=>cN (dz n L b j k (.mk 8 0 .z [v1,v0])) λl c=>if(dr c 0)=true then some (⟨fx,0⟩,c)else cN (gJ F t) λm o=>cA (iN t) λq=>cA (dS l.eS 2) λr=>some (⟨m,tO .u32 (tO .u32 q u.eS) r⟩,o):=by
 show fT (n+1) L (.mk 17 0 .z [t] [F] [a,b]) p=_;rw[fT];simp only[Pf.df,Pf.vr,Pf.fv,Pf.cZ,dk,eD,gz,kf,cz];rw[show iw 17=some (dh.mk 2 (.mk 7 0 .z []) [.nat,.mT] (.mk 8 0 .z [v1,v0])) by unfold iw;rw[mX,yI];rfl];rfl
def KI{L:List Fm}{t:Tm}(g:t.err=0){F:Fm}(hF:F.err=0){a b:Pf}{N:Nat}(ha:hJ L a N)(hb:hJ L b N):hJ L (.mk 16 0 .z [t] [F] [a,b]) (N+5):=by
 refine hJ.of λn n' hn aa p c h=>?_;have j:=h.pl.nv;have H:=h.pl.ctx;have ab:=(Fm.fj hF).2;obtain⟨t1,t2,_⟩:=qb H.nat (by simp;omega) hF;obtain⟨s1,s2⟩:=has_both H j rfl g 1;rw[show n'+4=n'+2+2 from rfl,QN,P8,QP,h.pl.abh,pM Ty.fZ (by omega),cz,t1,cz,dK (by simp;omega),cL,eW,t2,cz,s1,s2,cz,cz]
 by_cases o:F.sD (c.abh++[.nat])=0
 ·have r:=o;rw[<-wy (a:=_=_),<-ne_eq,<-cR] at r;rw[cB r,cB r,gg o];have d:=qa F (Fm.fj hF).1 _ H.nat o;have s:F.abj 1000000000=true:=d.abj _ (by simp;omega)
  by_cases u:mP t c.abh 1=0
  ·have r:=u;rw[<-wy (a:=_=_),<-ne_eq,<-cR] at r;rw[cB r,cB r,gg u];have E:dF c.abh t .nat:=G7 H g (.inl rfl) u;have K:oC c.abh F wa:=⟨hF,W_,.nat,d,.zero⟩;rw[show eF 4 []=some wa from CQ,cz];rcases qf j (ha (n+2) (n'+1) (by omega) (by omega) p c h) K with⟨e,z,l,m,he,i,x,y,hu⟩|⟨f,m,l,i,x,y,hu⟩
   ·rw[i,x,y,cF,cF,cG (by rw[cR];exact he),cG (by rw[cR];exact he)];exact j8.no he rfl rfl rfl
   ·rw[i,x,y,cF,cF,cB nz,cB nz,eR];rcases h.room (v:=1) (k:=1) (by omega) (by omega)with⟨A,B,W,r4⟩|⟨A,B,W⟩
    ·have A:dq p.eu 1 1=some 0:=A;have B:dt c 1 1=some 0:=B;rw[A,B,cz,cz,cB nz,cB nz,jq (by omega)];obtain⟨p1,c1,e1,e2,e3,I,M⟩:=h.below Ty.fZ W;obtain⟨p2,J,b1,b2,X,O,Y⟩:=e3.with (f:=F) (by rw[I];exact⟨hF,d⟩) (by rw[M];simpa using r4)
     have l1:dY F 1 (dX .i64 1 1)=some F:=by
      rw[dW (by omega) (by omega)];have:=(rk hF s (f:=1) (c:=0) (by omega) (by omega)).1;rw[show F.up ((1:Nat):Int) ((0:Nat):Int)=F from oE] at this;exact this
     have l2:dY F 1 1=some (F.up 1 1):=(rk hF s (f:=1) (c:=1) (by omega) (by omega)).1;have l3:gN FU F 1 1=some (F.up 1 1):=(rk hF s (f:=1) (c:=1) (by omega) (by omega)).2;rw[e1,e2,cz,cz,l1,cz,b1,b2,cz,cz,l2,l3,cz,cz];rw[show eF 5 [v0]=some (vZ v0)from IP (by decide),cz];have hi:=hb (n+2) (n'+1) (by omega) (by omega) p2 J X;have P:J.abh.length<=16:=X.pl.nv
     have G:J.abh=c.abh++[.nat]:=by rw[O,I]
     have Q:oC J.abh (F.up 1 1) (vZ v0):=⟨GZ hF (by omega) (by omega),UH,.nat,by
      rw[G];have:=d.up c.abh [.nat] [.nat] rfl
      simpa using this,by rw[G];exact .succ vB⟩
     rcases qf P hi Q with⟨e,z,R,S,he,i,x,y,C⟩|⟨f',S,R,i,x,y,C⟩
     ·rw[O,Y,I,M] at i;rw[i,x,y,cF,cF,cG (by rw[cR];exact he),cG (by rw[cR];exact he)];exact j8.no he rfl rfl rfl
     ·rw[O,Y,I,M] at i;obtain⟨lf,f1,f2,f3⟩:=tQ j E g;have D:oC c.abh F t:=⟨hF,g,.nat,d,E⟩;obtain⟨T,U,Z⟩:=C.out (by have:=C.len;omega) (k:=1) (by omega);have T:fi R 1=some (uj ((1:Nat):Int) R):=T;have U:dS (S:Int) 1=some ((S/2^1:Nat):Int):=U;obtain⟨q,v1,v2,v3,_⟩:=f3.union hu (by have:=f3.len;omega) (by have:=hu.len;omega);obtain⟨q',w1,w2,w3,_⟩:=v3.union Z (by have:=v3.len;omega) (by have:=Z.len;omega);rw[i,x,y,cF,cF,cB nz,cB nz,eR,(D.both (by omega)).1,(D.both (by omega)).2];obtain⟨w,e,hw⟩:∃w e,kO F t=(w,e):=⟨_,_,rfl⟩;rw[hw,cF,cF,f1,f2,cz,cz,U,v1,cz,cz,T,cz,w1,cz];simp only[];rw[v2,w2];rcases lD F t with V|⟨ad,V⟩
      ·rw[V] at hw;obtain⟨rfl,rfl⟩:=gL hw;rw[iP (by decide)];exact j8.no (by decide) rfl rfl rfl
      ·rw[V] at hw;obtain⟨rfl,rfl⟩:=gL hw;rw[gg rfl];exact j8.yes (f:=Fm.ia 0 F t) rfl rfl rfl w3 D.put (by omega)
    ·have A:dq p.eu 1 1=some 3:=A;have B:dt c 1 1=some 3:=B;rw[A,B,cz,cz,cG (by decide),cG (by decide),jX (by omega)];exact j8.no (by decide) rfl rfl rfl
  ·rw[cG (by rw[cR];exact u),cG (by rw[cR];exact u),iP u];exact j8.no u rfl rfl rfl
 ·rw[cG (by rw[cR];exact o),cG (by rw[cR];exact o),iP o];exact j8.no o rfl rfl rfl
def JE{L:List Fm}{t:Tm}(g:t.err=0){F:Fm}(hF:F.err=0){a b:Pf}{N:Nat}(ha:hJ L a N)(hb:hJ L b N):hJ L (.mk 17 0 .z [t] [F] [a,b]) (N+5):=by
 refine hJ.of λn n' hn aa p c h=>?_;have o:=h.pl.nv;have H:=h.pl.ctx;have ab:=(Fm.fj hF).2;obtain⟨t1,t2,_⟩:=qb H.mT (by simp;omega) hF;obtain⟨s1,s2⟩:=has_both H o rfl g 2;rw[show n'+4=n'+2+2 from rfl,Qn,QQ,Q0,h.pl.abh,pM Ty.nO (by omega),cz,t1,cz,dK (by simp;omega),cL,eW,t2,cz,s1,s2,cz,cz]
 by_cases r:F.sD (c.abh++[.mT])=0
 ·have s:=r;rw[<-wy (a:=_=_),<-ne_eq,<-cR] at s;rw[cB s,cB s,gg r];have d:=qa F (Fm.fj hF).1 _ H.mT r;have i:F.abj 1000000000=true:=d.abj _ (by simp;omega)
  by_cases u:mP t c.abh 2=0
  ·have s:=u;rw[<-wy (a:=_=_),<-ne_eq,<-cR] at s;rw[cB s,cB s,gg u];have E:dF c.abh t .mT:=G7 H g (.inr rfl) u;have K:oC c.abh F (.mk 7 0 .z []):=⟨hF,PL,.mT,d,.nil⟩;rw[show eF 7 []=some (.mk 7 0 .z [])from CQ,cz];rcases qf o (ha (n+2) (n'+1) (by omega) (by omega) p c h) K with⟨e,z,l,m,he,j,x,y,hu⟩|⟨f,m,l,j,x,y,hu⟩
   ·rw[j,x,y,cF,cF,cG (by rw[cR];exact he),cG (by rw[cR];exact he)];exact j8.no he rfl rfl rfl
   ·rw[j,x,y,cF,cF,cB nz,cB nz,eR];rcases h.room (v:=2) (k:=1) (by omega) (by omega)with⟨A,B,W,r4⟩|⟨A,B,W⟩
    ·have A:dq p.eu 2 1=some 0:=A;have B:dt c 2 1=some 0:=B;rw[A,B,cz,cz,cB nz,cB nz,jq (by omega)];obtain⟨p1,c1,e1,e2,e3,I,M⟩:=LO h W;obtain⟨p2,J,b1,b2,X,O,Y⟩:=e3.with (f:=F.up 1 1) (by rw[I];exact⟨GZ hF (by omega) (by omega),by have:=d.up c.abh [.mT] [.nat] rfl;simpa using this⟩) (by rw[M];simpa using r4)
     have l1:dY F 1 (dX .i64 2 1)=some (F.up 1 1):=by
      rw[dW (by omega) (by omega)];exact(rk hF i (f:=1) (c:=1) (by omega) (by omega)).1
     have l2:dY F 1 2=some (F.up 1 2):=(rk hF i (f:=1) (c:=2) (by omega) (by omega)).1;have l3:gN FU F 1 1=some (F.up 1 1):=(rk hF i (f:=1) (c:=1) (by omega) (by omega)).2;have l4:gN FU F 1 2=some (F.up 1 2):=(rk hF i (f:=1) (c:=2) (by omega) (by omega)).2;rw[e1,e2,cz,cz,l1,cz,l3,cz,b1,b2,cz,cz,l2,l4,cz,cz];rw[show eF 8 [v1,v0]=some (.mk 8 0 .z [v1,v0])from sH (by decide) (by decide),cz];have hi:=hb (n+2) (n'+1) (by omega) (by omega) p2 J X;have P:J.abh.length<=16:=X.pl.nv
     have G:J.abh=c.abh++[.nat]++[.mT]:=by rw[O,I]
     have Q:oC J.abh (F.up 1 2) (.mk 8 0 .z [v1,v0]):=⟨GZ hF (by omega) (by omega),St,.mT,by
      rw[G];have:=d.up c.abh [.mT] [.nat,.mT] rfl
      simpa using this,by rw[G];exact .cons FD vB⟩
     rcases qf P hi Q with⟨e,z,R,S,he,j,x,y,C⟩|⟨f',S,R,j,x,y,C⟩
     ·rw[O,Y,I,M] at j;rw[j,x,y,cF,cF,cG (by rw[cR];exact he),cG (by rw[cR];exact he)];exact j8.no he rfl rfl rfl
     ·rw[O,Y,I,M] at j;obtain⟨lf,f1,f2,f3⟩:=tQ o E g;have D:oC c.abh F t:=⟨hF,g,.mT,d,E⟩;obtain⟨T,U,Z⟩:=C.out (by have:=C.len;omega) (k:=2) (by omega);have T:fi R 2=some (uj ((2:Nat):Int) R):=T;have U:dS (S:Int) 2=some ((S/2^2:Nat):Int):=U;obtain⟨q,v1,v2,v3,_⟩:=f3.union hu (by have:=f3.len;omega) (by have:=hu.len;omega);obtain⟨q',w1,w2,w3,_⟩:=v3.union Z (by have:=v3.len;omega) (by have:=Z.len;omega);rw[j,x,y,cF,cF,cB nz,cB nz,eR,(D.both (by omega)).1,(D.both (by omega)).2];obtain⟨w,e,hw⟩:∃w e,kO F t=(w,e):=⟨_,_,rfl⟩;rw[hw,cF,cF,f1,f2,cz,cz,U,v1,cz,cz,T,cz,w1,cz];simp only[];rw[v2,w2];rcases lD F t with V|⟨ad,V⟩
      ·rw[V] at hw;obtain⟨rfl,rfl⟩:=gL hw;rw[iP (by decide)];exact j8.no (by decide) rfl rfl rfl
      ·rw[V] at hw;obtain⟨rfl,rfl⟩:=gL hw;rw[gg rfl];exact j8.yes (f:=Fm.ia 0 F t) rfl rfl rfl w3 D.put (by omega)
    ·have A:dq p.eu 2 1=some 3:=A;have B:dt c 2 1=some 3:=B;rw[A,B,cz,cz,cG (by decide),cG (by decide),jX (by omega)];exact j8.no (by decide) rfl rfl rfl
  ·rw[cG (by rw[cR];exact u),cG (by rw[cR];exact u),iP u];exact j8.no u rfl rfl rfl
 ·rw[cG (by rw[cR];exact r),cG (by rw[cR];exact r),iP r];exact j8.no r rfl rfl rfl
end Go.fg
