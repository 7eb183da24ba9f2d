/- Part of the proof of TranslateStable: plain facts. -/
import Derived.Test.YtffcgfpaakhbjaaGreatDoorPT1
set_option linter.all false
namespace Go.dG
open Go
def iv(a:Ty):a.jc a=true:=(Ty.ja a a).2 rfl
def kq{a b:Ty}(h:a≠b):a.jc b=false:=by grind[Ty.ja]
def mO{n:Nat}{g:List Ty}:∀(l:List Tm) (i:Nat) (v:List Ty),(∀a∈l,dw n g a=some (a.ty g))->v.length+l.length<=1000->cY (λ(m:Int) (j:Tm)=>(λ(c:List Ty)=>
   b7 (dw n g j) λd f=>
   if(cF f 0) then(
   some (dP.ret ((Ty.mk 0 []),f)))
   else(eB (dZ c [d])<|some (.next (eA c [d])))):Int->Tm->((List Ty))->(Option (dP ((List Ty)) (Ty×Int)))) l i v=some (match Tm.td l g with|.inl ts=>.inl (v++ts)|.inr e=>.inr (.z,e))
 |[],i,v,_,_=>by simp[Tm.td]|a::l,i,v,h,o=>by
  simp only[j0] at o;have p:=h a aas;rw[cO,Tm.td];rw[p]
  by_cases k:(a.ty g).2=0
  ·rw[xK k,ox rfl];simp only[bW];rw[bV aaq,de aaQ];simp only[b9,bT,cU];rw[mO l (i+1) _ (λb q=>h b (by simp[q])) (by rw[eP];simp;omega),eP];cases Tm.td l g with
   |inl ts=>simp|inr e=>rfl
  ·rw[oO k];generalize a.ty g=r at k;obtain⟨t,e⟩:=r;simp only[bW];rw[bX (by simpa[cF] using k)];rfl
def zg(l:List Tm)(g:List Ty):(∃e,e≠0/\Tm.td l g=.inr e)\/∃ts,Tm.td l g=.inl ts/\ts.length=l.length/\∀(i:Nat) (a:Tm),l[i]?=some a->∃s,ts[i]?=some s/\a.ty g=(s,0):=by
 induction l with
 |nil=>exact .inr ⟨[],by rw[Tm.td],rfl,aas⟩|cons a l b=>
  rw[Tm.td]
  grind[ox,oO]
def Mo{f:List Ty->Ty×Int}{e:Int}:tH f (.inr e)=(.z,e):=rfl
def mW{f:List Ty->Ty×Int}{l:List Ty}:tH f (.inl l)=f l:=rfl
def A7{a:Tm}{g:List Ty}(b:a.ok=true)(hg:gd g):(∃e,e≠0/\Tm.td [a] g=.inr e)\/∃s,Tm.td [a] g=.inl [s]/\s.err=0:=by
 rcases zg [a] g with h|⟨ts,c,d,f⟩
 ·grind
 ·obtain⟨s,j,i⟩:=f 0 a rfl
  match ts,d with
  |[x],_=>
   obtain rfl:x=s:=by grind
   exact .inr ⟨x,c,(pq _ a (fT _) b g hg _ i).2⟩
def A6{a b:Tm}{g:List Ty}(d:a.ok=true)(f:b.ok=true)(hg:gd g):(∃e,e≠0/\Tm.td [a,b] g=.inr e)\/∃s t,Tm.td [a,b] g=.inl [s,t]/\s.err=0/\t.err=0:=by
 rcases zg [a,b] g with h|⟨ts,i,j,c⟩
 ·exact .inl h
 ·obtain⟨s,m,k⟩:=c 0 a rfl;obtain⟨t,n,l⟩:=c 1 b rfl
  match ts,j with
  |[x,y],_=>
   obtain rfl:x=s:=by grind
   obtain rfl:y=t:=by grind
   exact .inr ⟨x,y,i,(pq _ a (fT _) d g hg _ k).2,(pq _ b (fT _) f g hg _ l).2⟩
def Ae{a b c:Tm}{g:List Ty}(f:a.ok=true)(i:b.ok=true)(j:c.ok=true)(hg:gd g):(∃e,e≠0/\Tm.td [a,b,c] g=.inr e)\/∃s t u,Tm.td [a,b,c] g=.inl [s,t,u]/\s.err=0/\t.err=0/\u.err=0:=by
 rcases zg [a,b,c] g with h|⟨ts,k,l,d⟩
 ·exact .inl h
 ·obtain⟨s,q,m⟩:=d 0 a rfl;obtain⟨t,r,n⟩:=d 1 b rfl;obtain⟨u,o,p⟩:=d 2 c rfl
  match ts,l with
  |[x,y,z],_=>
   obtain rfl:x=s:=by grind
   obtain rfl:y=t:=by grind
   obtain rfl:z=u:=by simpa using o
   exact .inr ⟨x,y,z,k,(pq _ a (fT _) f g hg _ m).2,(pq _ b (fT _) i g hg _ n).2,(pq _ c (fT _) j g hg _ p).2⟩
def DK{t:Ty}(h:t.aeb<=1000000000)(a:t.ok=true):r5 t=some (if 64<t.aeb then(.z,4)else(t,0)):=by
 unfold r5;rw[kU h];unfold Ty.err;rw[bX a]
 split
 ·rfl
 ·rfl
section
variable{s x y z:Ty}
def zc:((x.ad'=4/\x.aea.getD 0 .z=y)->fF 3 s [x,y]=(x.aea.getD 1 .z,0))/\(¬(x.ad'=4/\x.aea.getD 0 .z=y)->fF 3 s [x,y]=(.z,7)):=by
 unfold fF
 grind
def EI:(x=.nat->fF 5 s [x]=(.nat,0))/\(x≠ .nat->fF 5 s [x]=(.z,7)):=by
 unfold fF
 grind
def uD:((x=s/\y=.fn .nat (.fn s s)/\z=.nat)->fF 6 s [x,y,z]=(s,0))/\(¬(x=s/\y=.fn .nat (.fn s s)/\z=.nat)->fF 6 s [x,y,z]=(.z,7)):=by
 unfold fF
 grind
def zs:((x=.nat/\y=.lV)->fF 8 s [x,y]=(.lV,0))/\(¬(x=.nat/\y=.lV)->fF 8 s [x,y]=(.z,7)):=by
 unfold fF
 grind
def uH:((x=s/\y=.fn .nat (.fn .lV (.fn s s))/\z=.lV)->fF 9 s [x,y,z]=(s,0))/\(¬(x=s/\y=.fn .nat (.fn .lV (.fn s s))/\z=.lV)->fF 9 s [x,y,z]=(.z,7)):=by
 unfold fF
 grind
def L9:fF 10 s [x,y]=if 64<1+x.aeb+y.aeb then(.z,4)else(.pr x y,0):=by
 rfl
def Lv:fF 11 s [x]=if x.ad'=3 then(x.aea.getD 0 .z,0)else(.z,7):=by
 rfl
def LF:fF 12 s [x]=if x.ad'=3 then(x.aea.getD 1 .z,0)else(.z,7):=by
 rfl
end
def yx:∀(n:Nat) (t:Tm),t.aeb<=n->t.ok=true->∀g,gd g->g.length+t.aeb<=1000000->dw n g t=some (t.ty g):=by
 intro n
 induction n with
 |zero=>intro t h;have:=t.cw;omega
 |succ n m=>
  intro t hn L;refine Tm.lC (p:=λt=>t.aeb<=n+1->∀g,gd g->g.length+t.aeb<=1000000->dw (n+1) g t=some (t.ty g)) ?_ ?_ ?_ ?_ ?_ ?_ ?_ ?_ ?_ ?_ ?_ ?_ ?_ t L hn
  ·intro i _ g hg k;rw[Tm.bY] at k;rw[dw,bX abC,Tm.lE,bX rfl]
   by_cases hi:(i:Int)<(g.length:Int)
   ·rw[bV (by simp only[Tm.dQ,dI,fN];omega),bX hi];simp only[Tm.dQ,dI];rw[ds (a:=(g.length:Int)) VW VW,ds VW VW]
    have w:g.length-1-i<g.length:=VW
    have:cr g ((g.length:Int)-1-(i:Int))=some g[g.length-1-i]:=by
     unfold cr;rw[bX VW,show((g.length:Int)-1-(i:Int)).toNat=g.length-1-i by omega,mi w]
    rw[this];simp only[bT];have F:=hg _ (BB w);rw[gI (by have:=dd F;omega)];simp only[bT,AM];rw[P_,mi w];rfl
   ·rw[bX (by simp only[Tm.dQ,dI,fN];omega),bV hi];rfl
  ·intro s b hs k hn g hg d;rw[Tm.bY] at hn d;simp only[cm] at hn d;rw[dw,bV aas,bX abC,Tm.lE,bV aaq,bX rfl,Tm.tyH];simp only[Tm.cQ,Tm.ck,cD,gf,bT,eP];rw[de aaQ,b9,m b VW k (g++[s]) (hg.app hs) aaQ];have J:=λh=>(pq _ b (fT _) k (g++[s]) (hg.app hs) (b.ty (g++[s])).1 (xK h)).2;generalize b.ty (g++[s])=q at J;obtain⟨r,e⟩:=q;simp only[bW,KS]
   by_cases G:e=0
   ·subst G;have K:r.err=0:=J rfl;have H:=dd hs;have M:=dd K;rw[bV aaq,bV aas,gC VW VW];simp only[bT];rw[DK (t:=Ty.fn s r) (by rw[Ty.ie];omega) (Ty.ok_two (.inr rfl) (Ty.fV hs).1 (Ty.fV K).1),Ty.ie]
    split<;>rfl
   ·rw[bX (by simpa[cF] using G),bX G];rfl
  ·intro a b j k hn g hg d;rw[Tm.bY] at hn d;simp only[cm] at hn d;rw[dw,bV aas,bV aas,Tm.lE,bV aaq,bV aaq];simp only[cg,Tm.ck,ch (l:=[a,b]) aas,b9];rw[mO [a,b] 0 [] (by intro x f;simp at f;rcases f with rfl|rfl<;>first|exact m _ VW j g hg VW|exact m _ VW k g hg VW) aas];rcases A6 j k hg with⟨e,he,h⟩|⟨s,t,h,hs,D⟩
   ·rw[h];rfl
   ·rw[h,mW];simp only[bT,ca,ed,eQ];rw[bX abC];simp only[m6,cD,dV,gf,kW,bT]
    by_cases o:s.ad'=4
    ·obtain⟨x,y,rfl,f,hy⟩:=JT hs o;rw[bV (by simp[Ty.fn,cF]),show(Ty.fn x y).aea[0]?=some x from rfl];simp only[bT];rw[gn (by have:=dd f;omega)];simp only[bT]
     by_cases A:x=t
     ·subst A;rw[iv,bV aaq,show(Ty.fn x y).aea[1]?=some y from rfl,(zc (x:=.fn x y) (y:=x)).1 ⟨rfl,rfl⟩];rfl
     ·rw[kq A,bX aaq,(zc (x:=.fn x y) (y:=t)).2 (λh=>A h.2)];rfl
    ·rw[bX (by simpa[cF] using o),bX trivial,zc.2 (λh=>o h.1)];rfl
  ·intro hn g hg d;rw[Tm.lE,bV aaq,bV aaq,Tm.td];rfl
  ·intro a j hn g hg d;rw[Tm.bY] at hn d;simp only[cm] at hn d;rw[dw,bV aas,bV aas,Tm.lE,bV aaq,bV aaq];simp only[cg,Tm.ck,ch (l:=[a]) aas,b9];rw[mO [a] 0 [] (by intro x f;simp at f;subst f;exact m _ VW j g hg VW) aas];rcases A7 j hg with⟨e,he,h⟩|⟨s,h,hs⟩
   ·rw[h];rfl
   ·rw[h,mW];simp only[bT,ca,ed,eQ];rw[bV aas,bV aas,bX abC];simp only[m6,cD,gf,bT];rw[gn (by have:=dd hs;omega)];simp only[bT]
    by_cases B:s=.nat
    ·subst B;rw[iv,bX rfl,EI.1 rfl]
    ·rw[kq B,bV aaq,EI.2 B];rfl
  ·intro s a b c hs j k E hn g hg d;rw[Tm.bY] at hn d;simp only[cm] at hn d;rw[dw,bV aas,bV aas,Tm.lE,bV aaq,bV aaq];simp only[cg,Tm.ck,ch (l:=[a,b,c]) aas,b9];rw[mO [a,b,c] 0 [] (by intro x f;simp at f;rcases f with rfl|rfl|rfl<;>first|exact m _ VW j g hg VW|exact m _ VW k g hg VW|exact m _ VW E g hg VW) aas];rcases Ae j k E hg with⟨e,he,h⟩|⟨x,y,z,h,f,hy,I⟩
   ·rw[h];rfl
   ·have H:=dd hs;rw[h,mW];simp only[bT,ca,ed,eQ];rw[bV aas,bV aas,bV aas,bX abC];simp only[m6,cD,dV,gP,gf,kW,bT,Tm.cQ];rw[gn (by have:=dd f;omega)];simp only[bT]
    by_cases u:x=s
    ·subst u;rw[iv,bX rfl,gC VW VW];simp only[bT];rw[gC (by rw[Ty.gk];omega) (by rw[Ty.ie];omega)];simp only[bT];rw[gn (by have:=dd hy;omega)];simp only[bT]
     by_cases v:y=.fn .nat (.fn x x)
     ·subst v;rw[iv,bX rfl,gn (by have:=dd I;omega)];simp only[bT]
      by_cases C:z=.nat
      ·subst C;rw[iv,bV aaq,gI VW,uD.1 ⟨rfl,rfl,rfl⟩];rfl
      ·rw[kq C,bX aaq,uD.2 (λh=>C h.2.2)];rfl
     ·rw[kq v,bV aaq,bX trivial,uD.2 (λh=>v h.2.1)];rfl
    ·rw[kq u,bV aaq,bX trivial,uD.2 (λh=>u h.1)];rfl
  ·intro hn g hg d;rw[Tm.lE,bV aaq,bV aaq,Tm.td];rfl
  ·intro a b j k hn g hg d;rw[Tm.bY] at hn d;simp only[cm] at hn d;rw[dw,bV aas,bV aas,Tm.lE,bV aaq,bV aaq];simp only[cg,Tm.ck,ch (l:=[a,b]) aas,b9];rw[mO [a,b] 0 [] (by intro x f;simp at f;rcases f with rfl|rfl<;>first|exact m _ VW j g hg VW|exact m _ VW k g hg VW) aas];rcases A6 j k hg with⟨e,he,h⟩|⟨s,t,h,hs,D⟩
   ·rw[h];rfl
   ·rw[h,mW];simp only[bT,ca,ed,eQ];rw[bV aas,bV aas,bV aas,bV aas,bV aas,bX abC];simp only[m6,cD,dV,gf,kW,bT];rw[gn (by have:=dd hs;omega)];simp only[bT]
    by_cases u:s=.nat
    ·subst u;rw[iv,bX rfl,gn (by have:=dd D;omega)];simp only[bT]
     by_cases v:t=.lV
     ·subst v;rw[iv,bV aaq,zs.1 ⟨rfl,rfl⟩]
     ·rw[kq v,bX aaq,zs.2 (λh=>v h.2)];rfl
    ·rw[kq u,bV aaq,bX trivial,zs.2 (λh=>u h.1)];rfl
  ·intro s a b c hs j k E hn g hg d;rw[Tm.bY] at hn d;simp only[cm] at hn d;rw[dw,bV aas,bV aas,Tm.lE,bV aaq,bV aaq];simp only[cg,Tm.ck,ch (l:=[a,b,c]) aas,b9];rw[mO [a,b,c] 0 [] (by intro x f;simp at f;rcases f with rfl|rfl|rfl<;>first|exact m _ VW j g hg VW|exact m _ VW k g hg VW|exact m _ VW E g hg VW) aas];rcases Ae j k E hg with⟨e,he,h⟩|⟨x,y,z,h,f,hy,I⟩
   ·rw[h];rfl
   ·have H:=dd hs;rw[h,mW];simp only[bT,ca,ed,eQ];rw[bV aas,bV aas,bV aas,bV aas,bV aas,bV aas,bX abC];simp only[m6,cD,dV,gP,gf,kW,bT,Tm.cQ];rw[gn (by have:=dd f;omega)];simp only[bT]
    by_cases u:x=s
    ·subst u;rw[iv,bX rfl,gC VW VW];simp only[bT];rw[gC (by rw[Ty.nt];omega) (by rw[Ty.ie];omega)];simp only[bT];rw[gC (by rw[Ty.gk];omega) (by rw[Ty.ie,Ty.ie,Ty.nt];omega)];simp only[bT];rw[gn (by have:=dd hy;omega)];simp only[bT]
     by_cases v:y=.fn .nat (.fn .lV (.fn x x))
     ·subst v;rw[iv,bX rfl,gn (by have:=dd I;omega)];simp only[bT]
      by_cases C:z=.lV
      ·subst C;rw[iv,bV aaq,gI VW,uH.1 ⟨rfl,rfl,rfl⟩];rfl
      ·rw[kq C,bX aaq,uH.2 (λh=>C h.2.2)];rfl
     ·rw[kq v,bV aaq,bX trivial,uH.2 (λh=>v h.2.1)];rfl
    ·rw[kq u,bV aaq,bX trivial,uH.2 (λh=>u h.1)];rfl
  ·intro a b j k hn g hg d;rw[Tm.bY] at hn d;simp only[cm] at hn d;rw[dw,bV aas,bV aas,Tm.lE,bV aaq,bV aaq];simp only[cg,Tm.ck,ch (l:=[a,b]) aas,b9];rw[mO [a,b] 0 [] (by intro x f;simp at f;rcases f with rfl|rfl<;>first|exact m _ VW j g hg VW|exact m _ VW k g hg VW) aas];rcases A6 j k hg with⟨e,he,h⟩|⟨s,t,h,hs,D⟩
   ·rw[h];rfl
   ·have H:=dd hs;have M:=dd D;rw[h,mW];simp only[bT,ca,ed,eQ];rw[bV aas,bV aas,bV aas,bV aas,bV aas,bV aas,bV aas,bX abC];simp only[m6,cD,dV,gf,kW,bT];rw[wL VW VW];simp only[bT];rw[DK (t:=Ty.pr s t) (by rw[Ty.tn];omega) (Ty.ok_two (.inl rfl) (Ty.fV hs).1 (Ty.fV D).1),Ty.tn];rw[L9]
    split<;>rfl
  ·intro a j hn g hg d;rw[Tm.bY] at hn d;simp only[cm] at hn d;rw[dw,bV aas,bV aas,Tm.lE,bV aaq,bV aaq];simp only[cg,Tm.ck,ch (l:=[a]) aas,b9];rw[mO [a] 0 [] (by intro x f;simp at f;subst f;exact m _ VW j g hg VW) aas];rcases A7 j hg with⟨e,he,h⟩|⟨s,h,hs⟩
   ·rw[h];rfl
   ·rw[h,mW];simp only[bT,ca,ed,eQ];rw[bV aas,bV aas,bV aas,bV aas,bV aas,bV aas,bV aas,bV aas,bX abC];simp only[m6,cD,gf,bT];rw[Lv]
    by_cases o:s.ad'=3
    ·obtain⟨x,y,rfl,f,hy⟩:=y_ hs o;rw[bV (by simp[Ty.pr,cF]),bX abC,bX (show(Ty.pr x y).ad'=3 from rfl)];rfl
    ·rw[bX (by simpa[cF] using o),bV o];rfl
  ·intro a j hn g hg d;rw[Tm.bY] at hn d;simp only[cm] at hn d;rw[dw,bV aas,bV aas,Tm.lE,bV aaq,bV aaq];simp only[cg,Tm.ck,ch (l:=[a]) aas,b9];rw[mO [a] 0 [] (by intro x f;simp at f;subst f;exact m _ VW j g hg VW) aas];rcases A7 j hg with⟨e,he,h⟩|⟨s,h,hs⟩
   ·rw[h];rfl
   ·rw[h,mW];simp only[bT,ca,ed,eQ];rw[bV aas,bV aas,bV aas,bV aas,bV aas,bV aas,bV aas,bV aas,bX abC];simp only[m6,cD,gf,bT];rw[LF]
    by_cases o:s.ad'=3
    ·obtain⟨x,y,rfl,f,hy⟩:=y_ hs o;rw[bV (by simp[Ty.pr,cF]),bV aas,bX (show(Ty.pr x y).ad'=3 from rfl)];rfl
    ·rw[bX (by simpa[cF] using o),bV o];rfl
  ·intro hn g hg d;rw[Tm.lE,bV aaq,bV aaq,Tm.td];rfl
end Go.dG
namespace Go.dG
open Go
def Hn:fo=du:=by
 funext n
 induction n with
 |zero=>rfl|succ n c=>
  funext a b
  rw[fo,du,c]
def om{a b:Ty}(h:a.aeb<=1000000000):fo FU a b=some (a.jc b):=by rw[Hn];exact gn h
def ra(t:Ty):cj:=⟨t,(t.aeb:Int)⟩
def PZ:cj:=⟨.mk 0 [],0⟩
def G6(r:Ty×Int):cj×Int:=if r.2=0 then(ra r.1,0)else(PZ,r.2)
@[simp] theorem nV(t:Ty):G6 (t,0)=(ra t,0):=bX rfl
def ke{t:Ty}{e:Int}(h:e≠0):G6 (t,e)=(PZ,e):=bV h
@[simp] theorem s5(t:Ty):(ra t).b8=t:=by rfl
@[simp] theorem Ip(t:Ty):(ra t).aeb=(t.aeb:Int):=by rfl
@[simp] theorem YG:PZ.b8=.mk 0 []:=by rfl
theorem jG{t:Ty}(h:t.err=0):nw t=some (ra t):=by
 unfold nw;rw[ka (by have:=dd h;omega),bX h];rfl
def x0(k:Int){a b:Ty}(c:a.aeb<=1000000)(d:b.aeb<=1000000):uS k (ra a) (ra b)=some (if 64<1+a.aeb+b.aeb then(PZ,4)else(ra (.mk k [a,b]),0)):=by
 unfold uS;simp only[Ip,s5];rw[cX (a:=1) VW VW,cX VW VW]
 by_cases h:64<1+a.aeb+b.aeb
 ·rw[bX (by simp only[eE];omega),bX h];rfl
 ·rw[bV (by simp only[eE];omega),bV h];unfold ra;rw[Ty.wb]
  congr 3
theorem qn{a b:Ty}(c:a.aeb<=1000000):lH (ra a) (ra b)=some (a.jc b):=by
 unfold lH;simp only[cg,Ip,s5]
 by_cases h:(a.aeb:Int)=(b.aeb:Int)
 ·rw[bX (by simpa[cn] using h),om VW];rfl
 ·rw[bV (by simpa[cn] using h),kq (by rintro rfl;exact h rfl)]
def ql{t x:Ty}{i:Int}(h:cr t.aea i=some x)(a:x.err=0):kb (ra t) i=some (ra x):=by
 unfold kb;simp only[s5,h,bT,jG a]
def sd:jT=some .nat:=rfl
def JI:Cq=some .lV:=rfl
def RF{l:List Ty}(d:l.length<=1000):∀(i m:Nat) (k:Int) (as:List Ty),i<=l.length->i<m->nY ((TS λ(a:Int) (v49:Int) (b:List Ty)=>
   if(qJ a 0) then(
   bU (cr l a) λc=>
   some (.next ((dh .i64 a 1),4,[c,(Ty.mk v49 b)])))
   else(some (.H9 (a,v49,b)))):(Int×Int×(List Ty))->(Option (dP (Int×Int×(List Ty)) (Ty)))) m ((i:Int)-1,k,as)=some (.inl (-1,((l.take i).foldr Ty.fn (.mk k as)).ad',((l.take i).foldr Ty.fn (.mk k as)).aea))
 |0,m+1,k,as,_,_=>by
  rw[l6];simp only[TS];rw[bV (by rw[fN];omega)];rfl
 |i+1,m+1,k,as,hi,hm=>by
  rw[l6];simp only[TS];rw[bX (by rw[fN];omega),show((i+1:Nat):Int)-1=(i:Int) by omega,gQ,mi VW];simp only[bT,cU];rw[ds VW VW];have h:=RF d i m 4 [l[i],.mk k as] VW VW;rw[h,V6,mi VW];simp only[ZB,aar,List.foldr_cons,List.foldr_nil];rfl
def xZ(t:Ty)(l:List Ty)(a:l.length<=1000):pj t l=some (l.foldr Ty.fn t):=by
 unfold pj;simp only[cg];rw[dI,ds VW VW];have h:=RF a l.length FU t.ad' t.aea (fT _) (U6 VW);rw[h,bT];rw[List.take_length]
 have e:Ty.mk t.ad' t.aea=t:=by cases t;rfl
 rw[e];generalize List.foldr Ty.fn t l=r;cases r;rfl
def PC(a b t:Ty):pj t [a,b]=some (.fn a (.fn b t)):=xZ t [a,b] aas
def Pz(a b c t:Ty):pj t [a,b,c]=some (.fn a (.fn b (.fn c t))):=xZ t [a,b,c] aas
def Pk(a t:Ty):pj t [a]=some (.fn a t):=xZ t [a] aas
def rh:List Ty->cj×cj×cj
 |[]=>(PZ,PZ,PZ)|[a]=>(ra a,PZ,PZ)|[a,b]=>(ra a,ra b,PZ)|a::b::c::_=>(ra a,ra b,ra c)
def Dq(x:cj)(k:Int):ji x k=some (cn x.b8.ad' k):=rfl
def Dz(t:Ty)(k:Int):cn (ra t).b8.ad' k=decide (t.ad'=k):=by
 rw[s5];exact sK _ _
def Er(s:Ty)(l:List Tm)(i:Int):sm (.mk 6 i s l)=some (.fn .nat (.fn s s)):=by
 unfold sm;rw[bV aas];simp only[sd,bT];rw[PC];rfl
def CN(s:Ty)(l:List Tm)(i:Int):sm (.mk 9 i s l)=some (.fn .nat (.fn .lV (.fn s s))):=by
 unfold sm;rw[bX aas];simp only[sd,JI,bT];rw[Pz];rfl
section
variable{s x y z:Ty} {i:Int} {l:List Tm}
def Rf(f:x.err=0)(hy:y.err=0):eL (.mk 3 i s l) (rh [x,y])=some (G6 (fF 3 s [x,y])):=by
 unfold eL;rw[show jL (Tm.mk 3 i s l).ad'=some [] from rfl];simp only[bT];rw[bV aas,bX abC];simp only[cg,rh,Dq,bT,Dz]
 by_cases d:x.ad'=4
 ·obtain⟨a,b,rfl,e,g⟩:=JT f d;rw[bX abC,ql (t:=.fn a b) (x:=a) rfl e];simp only[bT];rw[qn (by have:=dd e;omega)];simp only[bT]
  by_cases c:a=y
  ·subst c;rw[iv,bV aas,ql (t:=.fn a b) (x:=b) rfl g,(zc (x:=.fn a b) (y:=a)).1 ⟨rfl,rfl⟩];simp only[bT];rw[show(Ty.fn a b).aea.getD 1 .z=b from rfl,nV]
  ·rw[kq c,bX aas,(zc (x:=.fn a b) (y:=y)).2 (λh=>c h.2),ke aaq];rfl
 ·rw[bV (by simpa using d),bX trivial,zc.2 (λh=>d h.1),ke aaq];rfl
def PJ(a:x.err=0)(hy:y.err=0):eL (.mk 10 i s l) (rh [x,y])=some (G6 (fF 10 s [x,y])):=by
 unfold eL;rw[show jL (Tm.mk 10 i s l).ad'=some [] from rfl];simp only[bT];rw[bV aas,bV aas,bV aas,bX abC];simp only[rh];rw[x0 3 (by have:=dd a;omega) (by have:=dd hy;omega),L9]
 split
 ·simp only[bW];rw[ke aaq]
 ·simp only[bW];rw[nV];rfl
def Ro(d:x.err=0):eL (.mk 11 i s l) (rh [x])=some (G6 (fF 11 s [x])):=by
 unfold eL;rw[show jL (Tm.mk 11 i s l).ad'=some [] from rfl];simp only[bT];rw[bV aas,bV aas,bV aas,bV aas];simp only[rh,Dq,bT,Dz];rw[Lv]
 by_cases c:x.ad'=3
 ·obtain⟨a,b,rfl,e,f⟩:=y_ d c;rw[bX abC,bX abC,ql (t:=.pr a b) (x:=a) rfl e,bX (show(Ty.pr a b).ad'=3 from rfl)];simp only[bT];rw[show(Ty.pr a b).aea.getD 0 .z=a from rfl,nV]
 ·rw[bV (by simpa using c),bV c,ke aaq];rfl
def RH(d:x.err=0):eL (.mk 12 i s l) (rh [x])=some (G6 (fF 12 s [x])):=by
 unfold eL;rw[show jL (Tm.mk 12 i s l).ad'=some [] from rfl];simp only[bT];rw[bV aas,bV aas,bV aas,bV aas];simp only[rh,Dq,bT,Dz];rw[LF]
 by_cases c:x.ad'=3
 ·obtain⟨a,b,rfl,f,e⟩:=y_ d c;rw[bX abC,bV aas,ql (t:=.pr a b) (x:=b) rfl e,bX (show(Ty.pr a b).ad'=3 from rfl)];simp only[bT];rw[show(Ty.pr a b).aea.getD 1 .z=b from rfl,nV]
 ·rw[bV (by simpa using c),bV c,ke aaq];rfl
end
end Go.dG
namespace Go.dG
open Go
section
variable{s x y z:Ty} {i:Int} {l:List Tm}
def yz{k t:Int}(a:jL k=some [t])(b:Ty.err (.mk t [])=0):eL (.mk k i s l) (rh [])=some (ra (.mk t []),0):=by
 unfold eL;rw[show(Tm.mk k i s l).ad'=k from rfl,a,bT,bX (show nG (cI [t]) 0=true by rfl),show JS [t] 1 (cI [t])=some ([]:List Int)from rfl];simp only[bT,ch (l:=([]:List Int)) aas,b9,cg,lx,ca,cD,gf];rw[jG b];rfl
def PL:eL (.mk 4 i s l) (rh [])=some (G6 (fF 4 s [])):=yz rfl Ty.fC
def S4:eL (.mk 7 i s l) (rh [])=some (G6 (fF 7 s [])):=yz rfl Ty.nF
def Qa:eL (.mk 13 i s l) (rh [])=some (G6 (fF 13 s [])):=yz rfl Ty.Gp
def Qw(b:x.err=0):eL (.mk 5 i s l) (rh [x])=some (G6 (fF 5 s [x])):=by
 unfold eL;rw[show jL (Tm.mk 5 i s l).ad'=some [1,1] from rfl,bT,bX (show nG (cI ([1,1]:List Int)) 0=true by rfl),show JS ([1,1]:List Int) 1 (cI ([1,1]:List Int))=some [1] from rfl];simp only[bT,ch (l:=([1]:List Int)) aas,b9,cg,rh];rw[cO,bX abC];simp only[Dq,bT,Dz]
 by_cases a:x.ad'=1
 ·have hn:=(tS b).1 a;subst hn;rw[tB abC,bV aaq];simp only[bT,cU,lx,ca,cD,gf];rw[show nw (Ty.mk 1 [])=some (ra .nat)from jG Ty.fC,EI.1 rfl,nV];rfl
 ·rw[Bo a,bX aaq,EI.2 (λh=>a ((tS b).2 h)),ke aaq];rfl
def Qv(c:x.err=0)(hy:y.err=0):eL (.mk 8 i s l) (rh [x,y])=some (G6 (fF 8 s [x,y])):=by
 unfold eL;rw[show jL (Tm.mk 8 i s l).ad'=some [2,1,2] from rfl,bT,bX (show nG (cI ([2,1,2]:List Int)) 0=true by rfl),show JS ([2,1,2]:List Int) 1 (cI ([2,1,2]:List Int))=some [1,2] from rfl];simp only[bT,ch (l:=([1,2]:List Int)) aas,b9,cg,rh];rw[cO,bX abC];simp only[Dq,bT,Dz]
 by_cases b:x.ad'=1
 ·have hn:=(tS c).1 b;subst hn;rw[tB abC,bV aaq];simp only[bT,cU];rw[cO,bV aaq,bX abC]
  by_cases a:y.ad'=2
  ·have hn:=(BS hy).1 a;subst hn;rw[tB abC,bV aaq];simp only[bT,cU,lx,ca,cD,gf];rw[show nw (Ty.mk 2 [])=some (ra .lV)from jG Ty.nF,zs.1 ⟨rfl,rfl⟩,nV];rfl
  ·rw[Bo a,bX aaq,zs.2 (λh=>a ((BS hy).2 h.2)),ke aaq];rfl
 ·rw[Bo b,bX aaq,zs.2 (λh=>b ((tS c).2 h.1)),ke aaq];rfl
def Sv(hs:s.err=0)(d:x.err=0)(hy:y.err=0)(e:z.err=0):eL (.mk 6 i s l) (rh [x,y,z])=some (G6 (fF 6 s [x,y,z])):=by
 unfold eL;rw[show jL (Tm.mk 6 i s l).ad'=some [] from rfl];simp only[bT];rw[bV aaq,bV aas,bX abC];simp only[cg,rh,Tm.cQ,jG hs,bT];rw[qn (by have:=dd d;omega)];simp only[bT]
 by_cases a:x=s
 ·subst a;rw[iv,bX rfl,Er];simp only[bT,s5];rw[om (by have:=dd hy;omega)];simp only[bT]
  by_cases b:y=.fn .nat (.fn x x)
  ·subst b;rw[iv,bX rfl];simp only[Dq,bT];rw[show df (cn (Tm.mk 6 i x l).ad' 9) (2:Int) 1=1 from rfl];simp only[Dz]
   by_cases c:z=.nat
   ·subst c;rw[tB abC,bV aaq,uD.1 ⟨rfl,rfl,rfl⟩,nV]
   ·rw[Bo (λh=>c ((tS e).1 h)),bX aaq,uD.2 (λh=>c h.2.2),ke aaq];rfl
  ·rw[kq b,bV aaq,bX trivial,uD.2 (λh=>b h.2.1),ke aaq];rfl
 ·rw[kq a,bV aaq,bX trivial,uD.2 (λh=>a h.1),ke aaq];rfl
def QA(hs:s.err=0)(d:x.err=0)(hy:y.err=0)(e:z.err=0):eL (.mk 9 i s l) (rh [x,y,z])=some (G6 (fF 9 s [x,y,z])):=by
 unfold eL;rw[show jL (Tm.mk 9 i s l).ad'=some [] from rfl];simp only[bT];rw[bV aaq,bV aas,bX abC];simp only[cg,rh,Tm.cQ,jG hs,bT];rw[qn (by have:=dd d;omega)];simp only[bT]
 by_cases a:x=s
 ·subst a;rw[iv,bX rfl,CN];simp only[bT,s5];rw[om (by have:=dd hy;omega)];simp only[bT]
  by_cases b:y=.fn .nat (.fn .lV (.fn x x))
  ·subst b;rw[iv,bX rfl];simp only[Dq,bT];rw[show df (cn (Tm.mk 9 i x l).ad' 9) (2:Int) 1=2 from rfl];simp only[Dz]
   by_cases c:z=.lV
   ·subst c;rw[tB abC,bV aaq,uH.1 ⟨rfl,rfl,rfl⟩,nV]
   ·rw[Bo (λh=>c ((BS e).1 h)),bX aaq,uH.2 (λh=>c h.2.2),ke aaq];rfl
  ·rw[kq b,bV aaq,bX trivial,uH.2 (λh=>b h.2.1),ke aaq];rfl
 ·rw[kq a,bV aaq,bX trivial,uH.2 (λh=>a h.1),ke aaq];rfl
end
def Vo(p:cj×cj×cj):Int×(List Ty)×Int×Int×(List Ty)×Int×Int×(List Ty)×Int:=
 (p.1.b8.ad',p.1.b8.aea,p.1.aeb,p.2.1.b8.ad',p.2.1.b8.aea,p.2.1.aeb,p.2.2.b8.ad',p.2.2.b8.aea,p.2.2.aeb)
def Dw{n:Nat}{g:List Ty}:∀(l:List Tm) (d:List Ty),d.length+l.length<=3->(∀a∈l,cS n (g.map ra) a=some (G6 (a.ty g)))->cY (λ(f:Int) (x:Tm)=>(YM λ(i:Int) (j:List Ty) (v218:Int) (k:Int) (m:List Ty) (o:Int) (v222:Int) (p:List Ty) (q:Int)=>
   b7 (cS n (g.map ra) x) λc s=>
   if(cF s 0) then(
   some (.ret ((cj.mk (Ty.mk 0 []) 0),s)))
   else(if(cn f 0) then(
   some (.next (c.b8.ad',c.b8.aea,c.aeb,k,m,o,v222,p,q)))
   else(if(cn f 1) then(
   some (.next (i,j,v218,c.b8.ad',c.b8.aea,c.aeb,v222,p,q)))
   else(eB (cn f 2)<|some (.next (i,j,v218,k,m,o,c.b8.ad',c.b8.aea,c.aeb)))))):Int->Tm->(Int×(List Ty)×Int×Int×(List Ty)×Int×Int×(List Ty)×Int)->(Option (dP (Int×(List Ty)×Int×Int×(List Ty)×Int×Int×(List Ty)×Int) (cj×Int)))) l d.length (Vo (rh d))=some (match Tm.td l g with|.inl ts=>.inl (Vo (rh (d++ts)))|.inr e=>.inr (PZ,e))
 |[],d,_,_=>by simp[Tm.td]|a::l,d,y,h=>by
  simp only[j0] at y;rw[cO,Tm.td];have B:=h a aas;simp only[Vo,YM];rw[B]
  by_cases w:(a.ty g).2=0
  ·rw[xK w,ox rfl,nV,bW,bV aaq];generalize (a.ty g).1=t
   have go:∀A:List Ty,A=d++[t]->(some (dP.next (Vo (rh A))):Option (dP (Int×(List Ty)×Int×Int×(List Ty)×Int×Int×(List Ty)×Int) (cj×Int)))=some (dP.next (Vo (rh (d++[t])))):=λA e=>by rw[e]
   have z:=Dw l (d++[t]) aaQ (λb C=>h b (by simp[C]));rw[ni,j0,tP] at z
   have fin:(some (match Tm.td l g with|.inl ts=>.inl (Vo (rh (d++[t]++ts)))|.inr e=>.inr (PZ,e)):Option ((Int×(List Ty)×Int×Int×(List Ty)×Int×Int×(List Ty)×Int)⊕(cj×Int)))=some (match(match Tm.td l g with|.inl ts=>Sum.inl (t::ts)|.inr e=>Sum.inr e:List Ty⊕Int)with|.inl ts=>.inl (Vo (rh (d++ts)))|.inr e=>.inr (PZ,e)):=by
    cases Tm.td l g with
    |inl ts=>simp|inr e=>rfl
   match d,y with
   |[],_=>
    rw[bX abC];exact z.trans fin
   |[u],_=>
    rw[bV aas,bX abC];exact z.trans fin
   |[u,v],_=>
    rw[bV aas,bV aas,show cn (([u,v].length:Nat):Int) 2=true from rfl,b9];exact z.trans fin
   |_::_::_::_,y=>simp at y;omega
  ·rw[oO w];generalize a.ty g=r at w;obtain⟨t,e⟩:=r;simp only at w;rw[ke w,bW,bX (by simpa[cF] using w)];rfl
def UH(p:cj×cj×cj):((cj.mk (Ty.mk p.1.b8.ad' p.1.b8.aea) p.1.aeb),(cj.mk (Ty.mk p.2.1.b8.ad' p.2.1.b8.aea) p.2.1.aeb),(cj.mk (Ty.mk p.2.2.b8.ad' p.2.2.b8.aea) p.2.2.aeb))=p:=by
 have e:∀t:Ty,Ty.mk t.ad' t.aea=t:=λt=>by cases t;rfl
 obtain⟨⟨a,b⟩,⟨c,d⟩,⟨g,f⟩⟩:=p;simp only[e]
def jU{n:Nat}{g:List Ty}{k i:Int}{s:Ty}{l:List Tm}(m:k≠1)(q:k≠2)(r:l.length<=3)(h:∀a∈l,cS n (g.map ra) a=some (G6 (a.ty g)))
  (hn:∀ts,Tm.td l g=.inl ts->eL (.mk k i s l) (rh ts)=some (G6 (fF k s ts))):cS (n+1) (g.map ra) (.mk k i s l)=some (G6 ((Tm.mk k i s l).ty g)):=by
 rw[cS,bV (by simpa[cn] using m),bV (by simpa[cn] using q),Tm.lE,bV m,bV q];simp only[cg,Tm.ck];rw[ch VW,b9];have f:=Dw l [] (by simpa using r) h;refine(congrArg (λo=>bU o _) f).trans ?_;simp only[bT];cases j:Tm.td l g with
 |inr e=>
  rw[Mo]
  have he:e≠0:=by
   rcases zg l g with⟨t,d,c⟩|⟨ts,d,_⟩
   ·rw[j] at c;cases c;exact d
   ·rw[j] at d;cases d
  rw[ke he];rfl
 |inl ts=>
  simp only[m6,ca,mW,Vo,YM];rw[UH,hn ts j,show∀p:cj×Int,(b7 (some p) λa b=>some (a,b))=some p fromλ_=>rfl]
end Go.dG
namespace Go.dG
open Go
def yq(g:List Ty)(s:Ty):g.map ra++[ra s]=(g++[s]).map ra:=aas
def C8:∀(n:Nat) (t:Tm),t.aeb<=n->t.ok=true->∀g,gd g->g.length+t.aeb<=1000000->cS n (g.map ra) t=some (G6 (t.ty g)):=by
 intro n
 induction n with
 |zero=>intro t h;have:=t.cw;omega
 |succ n l=>
  intro t hn B
  have one:∀{a:Tm} {g:List Ty} {ts:List Ty},a.ok=true->gd g->Tm.td [a] g=.inl ts->∃x,ts=[x]/\x.err=0:=by
   intro a g ts j hg h;rcases A7 j hg with⟨e,_,o⟩|⟨x,o,f⟩<;>rw[h] at o<;>cases o;exact⟨x,rfl,f⟩
  have two:∀{a b:Tm} {g:List Ty} {ts:List Ty},a.ok=true->b.ok=true->gd g->Tm.td [a,b] g=.inl ts->∃x y,ts=[x,y]/\x.err=0/\y.err=0:=by
   intro a b g ts j k hg h;rcases A6 j k hg with⟨e,_,o⟩|⟨x,y,o,f,hy⟩<;>rw[h] at o<;>cases o;exact⟨x,y,rfl,f,hy⟩
  have three:∀{a b c:Tm} {g:List Ty} {ts:List Ty},a.ok=true->b.ok=true->c.ok=true->gd g->Tm.td [a,b,c] g=.inl ts->∃x y z,ts=[x,y,z]/\x.err=0/\y.err=0/\z.err=0:=by
   intro a b c g ts j k m hg h;rcases Ae j k m hg with⟨e,_,o⟩|⟨x,y,z,o,f,hy,u⟩<;>rw[h] at o<;>cases o;exact⟨x,y,z,rfl,f,hy,u⟩
  refine Tm.lC (p:=λt=>t.aeb<=n+1->∀g,gd g->g.length+t.aeb<=1000000->cS (n+1) (g.map ra) t=some (G6 (t.ty g))) ?_ ?_ ?_ ?_ ?_ ?_ ?_ ?_ ?_ ?_ ?_ ?_ ?_ t B hn
  ·intro i _ g hg k;rw[Tm.bY] at k;rw[cS,bX abC,Tm.lE,bX rfl];simp only[Tm.dQ,dI,Eo]
   by_cases hi:(i:Int)<(g.length:Int)
   ·rw[bV (by simp only[fN];omega),bX hi];rw[ds (a:=(g.length:Int)) VW VW,ds VW VW]
    have v:g.length-1-i<g.length:=VW
    have:cr (g.map ra) ((g.length:Int)-1-(i:Int))=some (ra g[g.length-1-i]):=by
     unfold cr;rw[bX VW,show((g.length:Int)-1-(i:Int)).toNat=g.length-1-i by omega,sw,mi v];rfl
    rw[this];simp only[bT,AM];rw[P_,mi v];exact congrArg some (nV _).symm
   ·rw[bX (by simp only[fN];omega),bV hi,ke aaq];rfl
  ·intro s b hs k hn g hg d;rw[Tm.bY] at hn d;simp only[cm] at hn d;rw[cS,bV aas,bX abC,Tm.lE,bV aaq,bX rfl,Tm.tyH];simp only[Tm.cQ,Tm.ck,jG hs,cD,gf,bT,eP];rw[de aaQ,b9,yq,l b VW k (g++[s]) (hg.app hs) aaQ];have A:=λh=>(pq _ b (fT _) k (g++[s]) (hg.app hs) (b.ty (g++[s])).1 (xK h)).2;generalize b.ty (g++[s])=q at A;obtain⟨r,e⟩:=q;simp only[KS]
   by_cases w:e=0
   ·subst w;have C:r.err=0:=A rfl;have D:=dd hs;have E:=dd C;rw[nV,bW,bV aaq,bV aas,x0 4 VW VW]
    by_cases m:64<1+s.aeb+r.aeb
    ·rw[bX m,bX m,ke aaq];rfl
    ·rw[bV m,bV m,nV];rfl
   ·rw[ke w,bW,bX (by simpa[cF] using w),bX w,ke w];rfl
  ·intro a b j k hn g hg d;rw[Tm.bY] at hn d;simp only[cm] at hn d;refine jU aaq aaq aas (by intro x f;simp at f;rcases f with rfl|rfl<;>first|exact l _ VW j g hg VW|exact l _ VW k g hg VW) (λts h=>?_);obtain⟨x,y,rfl,f,hy⟩:=two j k hg h;exact Rf f hy
  ·intro hn g hg d;exact jU aaq aaq aas aas (λts h=>by rw[Tm.td] at h;cases h;exact PL)
  ·intro a j hn g hg d;rw[Tm.bY] at hn d;simp only[cm] at hn d;refine jU aaq aaq aas (by intro x f;simp at f;subst f;exact l _ VW j g hg VW) (λts h=>?_);obtain⟨x,rfl,f⟩:=one j hg h;exact Qw f
  ·intro s a b c hs j k m hn g hg d;rw[Tm.bY] at hn d;simp only[cm] at hn d;refine jU aaq aaq aas (by intro x f;simp at f;rcases f with rfl|rfl|rfl<;>first|exact l _ VW j g hg VW|exact l _ VW k g hg VW|exact l _ VW m g hg VW) (λts h=>?_);obtain⟨x,y,z,rfl,f,hy,u⟩:=three j k m hg h;exact Sv hs f hy u
  ·intro hn g hg d;exact jU aaq aaq aas aas (λts h=>by rw[Tm.td] at h;cases h;exact S4)
  ·intro a b j k hn g hg d;rw[Tm.bY] at hn d;simp only[cm] at hn d;refine jU aaq aaq aas (by intro x f;simp at f;rcases f with rfl|rfl<;>first|exact l _ VW j g hg VW|exact l _ VW k g hg VW) (λts h=>?_);obtain⟨x,y,rfl,f,hy⟩:=two j k hg h;exact Qv f hy
  ·intro s a b c hs j k m hn g hg d;rw[Tm.bY] at hn d;simp only[cm] at hn d;refine jU aaq aaq aas (by intro x f;simp at f;rcases f with rfl|rfl|rfl<;>first|exact l _ VW j g hg VW|exact l _ VW k g hg VW|exact l _ VW m g hg VW) (λts h=>?_);obtain⟨x,y,z,rfl,f,hy,u⟩:=three j k m hg h;exact QA hs f hy u
  ·intro a b j k hn g hg d;rw[Tm.bY] at hn d;simp only[cm] at hn d;refine jU aaq aaq aas (by intro x f;simp at f;rcases f with rfl|rfl<;>first|exact l _ VW j g hg VW|exact l _ VW k g hg VW) (λts h=>?_);obtain⟨x,y,rfl,f,hy⟩:=two j k hg h;exact PJ f hy
  ·intro a j hn g hg d;rw[Tm.bY] at hn d;simp only[cm] at hn d;refine jU aaq aaq aas (by intro x f;simp at f;subst f;exact l _ VW j g hg VW) (λts h=>?_);obtain⟨x,rfl,f⟩:=one j hg h;exact Ro f
  ·intro a j hn g hg d;rw[Tm.bY] at hn d;simp only[cm] at hn d;refine jU aaq aaq aas (by intro x f;simp at f;subst f;exact l _ VW j g hg VW) (λts h=>?_);obtain⟨x,rfl,f⟩:=one j hg h;exact RH f
  ·intro hn g hg d;exact jU aaq aaq aas aas (λts h=>by rw[Tm.td] at h;cases h;exact Qa)
def vr{t:Tm}{g:List Ty}(a:t.ok=true)(hg:gd g)(b:g.length+t.aeb<=1000000):cS FU (g.map ra) t=some (G6 (t.ty g)):=
 C8 FU t (by have:=cP;omega) a g hg b
noncomputable def mT (t:Tm) (g:List Ty) (k:Int):Int:=if(t.ty g).2=0/\(t.ty g).1.ad'≠k then 7 else(t.ty g).2
def zN{t:Tm}{g:List Ty}(k:Int)(c:t.ok=true)(hg:gd g)(d:g.length+t.aeb<=1000000):iw (g.map ra) t k=some (mT t g k):=by
 unfold iw mT;rw[vr c hg d];generalize t.ty g=q;obtain⟨r,e⟩:=q
 by_cases a:e=0
 ·subst a;rw[nV,bW];simp only[cg];rw[bX abC,Dq,bT,Dz]
  by_cases b:r.ad'=k
  ·rw[tB b,bV aaq,bV (λh=>h.2 b)]
  ·rw[Bo b,bX aaq,bX ⟨trivial,b⟩]
 ·rw[ke a,bW];simp only[cg];rw[bV (by simpa[cn] using a),bV aaq,bV (λh=>a h.1)]
def vz{t:Tm}{g:List Ty}(a:t.ok=true)(hg:gd g)(b:g.length+t.aeb<=1000000):hY (g.map ra) t=some (mT t g 1):=by
 unfold hY;rw[zN 1 a hg b];rfl
mutual
noncomputable def Fm.ti:Fm->List Ty->Int
 |.mk k s ts l,g=>if dq (ts.map λt=>mT t g 1)=0 then Fm.Sc l (if hI k then g++[s] else g)else dq (ts.map λt=>mT t g 1)
noncomputable def Fm.Sc:List Fm->List Ty->Int
 |[],_=>0|f::l,g=>if f.ti g=0 then Fm.Sc l g else f.ti g
end
def Fm.OZ(g:List Ty):∀l:List Fm,Fm.Sc l g=dq (l.map λf=>f.ti g)
 |[]=>by rw[Fm.Sc];rfl|f::l=>by rw[Fm.Sc,Fm.OZ g l];rfl
def Fm.sC(k:Int)(s:Ty)(ts:List Tm)(l:List Fm)(g:List Ty):(Fm.mk k s ts l).ti g=if dq (ts.map λt=>mT t g 1)=0 then dq (l.map λf=>f.ti (if hI k then g++[s] else g))else dq (ts.map λt=>mT t g 1):=by
 rw[Fm.ti,Fm.OZ]
def yy{t:Tm}{g:List Ty}(a:t.ok=true)(hn:t.aeb<=4096)(hg:gd g)(b:g.length<=900000):nX g t=some (t.ty g):=by
 unfold nX;have hw:=t.er a;rw[mc VW]
 have he:t.err=0:=by unfold Tm.err;rw[bX a,bV VW]
 rw[he];simp only[bT];rw[bV aaq,yx FU t (by have:=cP;omega) a g hg VW];rfl
def H5{t:Tm}{g:List Ty}(f:t.ok=true)(hn:t.aeb<=4096)(hg:gd g)(i:g.length<=900000):(b7 (nX g t) λd a=>if(cF a 0) then(some (.ret a))else(if(cF d.ad' 1) then(some (.ret 7))else(some (.next ()))):Option (dP Unit Int))=
   if mT t g 1≠0 then some (.ret (mT t g 1))else some (.next ()):=by
 rw[yy f hn hg i];unfold mT;generalize t.ty g=q;obtain⟨r,e⟩:=q;simp only[bW,cf]
 by_cases b:e=0
 ·subst b
  by_cases c:r.ad'=1
  ·rw[bV aas,bV (by simp[c]),bV (show¬((0:Int)=0/\r.ad'≠1)fromλh=>h.2 c),bV aas]
  ·rw[bV aas,bX c,bX (show(0:Int)=0/\r.ad'≠1 from⟨rfl,c⟩),bX aaq]
 ·rw[bX b,bV (show¬(e=0/\r.ad'≠1)fromλh=>b h.1),bX b]
def rk{e:Int}:(bU (some e) λa=>if(cF a 0) then(some (.ret a))else(some (.next ())):Option (dP Unit Int))=if e≠0 then some (.ret e)else some (.next ()):=by
 rw[bT]
 by_cases h:e=0
 ·subst h;rfl
 ·rw[bX (by simpa[cF] using h),bX h]
def tJ{l:List Int}{k:Unit⊕Int->Option Int}(h:k=dR (λ_=>some 0) (λr=>some r)):bU (if dq l=0 then some (.inl ())else some (.inr (dq l))) k=some (dq l):=by
 subst h
 by_cases h:dq l=0
 ·rw[bX h,h];rfl
 ·rw[bV h];rfl
def xX(f:Fm)(v:f.ok=true):∀n,f.aeb<=n->∀g,gd g->g.length+f.aeb<=900000->f.aeb<=4096->lI n g f=some (f.ti g):=by
 refine Fm.lC (p:=λf=>∀n,f.aeb<=n->∀g,gd g->g.length+f.aeb<=900000->f.aeb<=4096->lI n g f=some (f.ti g)) ?_ ?_ ?_ f v
 ·intro a b l u n hn g hg c d;rw[Fm.bY] at hn c d;simp only[cm] at hn c d;obtain⟨n,rfl⟩:∃m,n=m+1:=⟨n-1,VW⟩;rw[lI,Fm.sC];simp only[cg,Fm.eY,Fm.ck,Fm.cq,kr,bT]
  rw[ch aas,b9,kV (λt=>mT t g 1) [a,b] 0 (λj x e=>by
   simp only[jW,Qy,qZ] at e;rcases e with rfl|rfl
   ·exact H5 l VW hg VW
   ·exact H5 u VW hg VW)]
  rw[show hI 1=false from rfl]
  by_cases h:dq ([a,b].map λt=>mT t g 1)=0
  ·rw[bX h,bX h];rfl
  ·rw[bV h,bV h];rfl
 ·intro k a b o l u i q n hn g hg c d;rw[Fm.bY] at hn c d;simp only[cm] at hn c d;obtain⟨n,rfl⟩:∃m,n=m+1:=⟨n-1,VW⟩
  have r:hI k=false:=by rcases o with rfl|rfl<;>rfl
  rw[lI,Fm.sC];simp only[cg,Fm.eY,Fm.ck,Fm.cq,kr,bT,r,m7,dq]
  rw[ch aas,b9,lx,bT,ca,bV aaq,bX trivial,ch aas,b9,kV (λf=>f.ti g) [a,b] 0 (λj x e=>by
   simp only[jW,Qy,qZ] at e;rcases e with rfl|rfl
   ·rw[i n VW g hg VW VW];exact rk
   ·rw[q n VW g hg VW VW];exact rk)]
  exact tJ rfl
 ·intro k s a o hs l i n hn g hg c d;rw[Fm.bY] at hn c d;simp only[cm] at hn c d;obtain⟨n,rfl⟩:∃m,n=m+1:=⟨n-1,VW⟩
  have r:hI k=true:=by rcases o with rfl|rfl|rfl|rfl<;>rfl
  rw[lI,Fm.sC];simp only[cg,Fm.eY,Fm.ck,Fm.cq,Fm.cQ,kr,bT,r,m7,dq];rw[ch aas,b9,lx,bT,ca];simp only[if_true]
  rw[de aaQ,b9,eP,ch aas,b9,kV (λf=>f.ti (g++[s])) [a] 0 (λj x e=>by
   simp only[jW,Qy,qZ] at e;subst e
   rw[i n VW (g++[s]) (hg.app hs) aaQ VW];exact rk)]
  exact tJ rfl
def qy{g:List Ty}{s:Ty}(hs:s.err=0)(a:g.length<=900000):eW (g.map ra) [s]=some ((g++[s]).map ra):=by
 unfold eW p4;simp only[cg];rw[ch aas,b9,cO,jG hs];simp only[bT];rw[de aas,b9];simp only[bT,cU,lx,ca,eP,m6];rw[de aaQ,b9,yq]
def DN{t:Tm}{g:List Ty}(b:t.ok=true)(hn:t.aeb<=4096)(hg:gd g)(c:g.length<=900000):(bU (hY (g.map ra) t) λa=>if(cF a 0) then(some (.ret a))else(some (.next ())):Option (dP Unit Int))=if mT t g 1≠0 then some (.ret (mT t g 1))else some (.next ()):=by
 rw[vz b hg VW];exact rk
def uI(f:Fm)(A:f.ok=true):∀n,f.aeb<=n->∀g,gd g->g.length+f.aeb<=900000->f.aeb<=4096->cR n (g.map ra) f=some (f.ti g):=by
 refine Fm.lC (p:=λf=>∀n,f.aeb<=n->∀g,gd g->g.length+f.aeb<=900000->f.aeb<=4096->cR n (g.map ra) f=some (f.ti g)) ?_ ?_ ?_ f A
 ·intro a b u y n hn g hg c d;rw[Fm.bY] at hn c d;simp only[cm] at hn c d;obtain⟨n,rfl⟩:∃m,n=m+1:=⟨n-1,VW⟩;rw[cR,Fm.sC];simp only[cg,Fm.eY,Fm.ck]
  rw[bV aas,bV aas,bV aas,ch aas,b9,kV (λt=>mT t g 1) [a,b] 0 (λj x e=>by
   simp only[jW,Qy,qZ] at e;rcases e with rfl|rfl
   ·exact DN u VW hg VW
   ·exact DN y VW hg VW)]
  rw[tJ rfl]
  by_cases h:dq ([a,b].map λt=>mT t g 1)=0
  ·rw[bX h,h];rfl
  ·rw[bV h]
 ·intro k a b l u y o v n hn g hg c d;rw[Fm.bY] at hn c d;simp only[cm] at hn c d;obtain⟨n,rfl⟩:∃m,n=m+1:=⟨n-1,VW⟩
  have w:hI k=false:=by rcases l with rfl|rfl<;>rfl
  have B:df (cn k 4) true (cn k 5)=false:=by rcases l with rfl|rfl<;>rfl
  have k2:df (cn k 6) true (cn k 7)=false:=by rcases l with rfl|rfl<;>rfl
  have C:df (cn k 2) true (cn k 3)=true:=by rcases l with rfl|rfl<;>rfl
  rw[cR,Fm.sC];simp only[cg,Fm.eY,Fm.ck,w,m7,dq];rw[bV (by simp only[Fm.cq,B];decide),bV (by simp only[Fm.cq,k2];decide),bX (by simp only[Fm.cq,C])];simp only[if_true,gX,fL]
  rw[ch aas,b9,kV (λf=>f.ti g) [a,b] 0 (λj x e=>by
   simp only[jW,Qy,qZ] at e;rcases e with rfl|rfl
   ·rw[o n VW g hg VW VW];exact rk
   ·rw[v n VW g hg VW VW];exact rk)]
  exact tJ rfl
 ·intro k s a l hs u o n hn g hg c d;rw[Fm.bY] at hn c d;simp only[cm] at hn c d;obtain⟨n,rfl⟩:∃m,n=m+1:=⟨n-1,VW⟩
  have w:hI k=true:=by rcases l with rfl|rfl|rfl|rfl<;>rfl
  rw[cR,Fm.sC];simp only[cg,Fm.eY,Fm.ck,Fm.cQ,w,m7,dq,qy hs (show g.length<=900000 by omega),bT,if_true]
  have fin:(eB (cZ [a])<|bU (cY (λ(z:Int) (q:Fm)=>(λ(_:Unit)=>
    bU (cR n ((g++[s]).map ra) q) λi=>
    if(cF i 0) then(
    some (.ret i))
    else(some (.next ()))):Int->Fm->(Unit)->(Option (dP (Unit) (Int)))) [a] 0 ()) (dR (λ(_:Unit)=>some 0) (λr=>some r)))=some (dq ([a].map λf=>f.ti (g++[s]))):=by
   rw[ch aas,b9,kV (λf=>f.ti (g++[s])) [a] 0 (λj x e=>by
    simp only[jW,Qy,qZ] at e;subst e
    rw[o n VW (g++[s]) (hg.app hs) aaQ VW];exact rk)]
   exact tJ rfl
  rcases l with rfl|rfl|rfl|rfl
  ·rw[bX aas];exact fin
  ·rw[bX aas];exact fin
  ·rw[bV aas,bX aas];exact fin
  ·rw[bV aas,bX aas];exact fin
mutual
def Fm.up(f b:Int):Fm->Fm
 |.mk k s ts l=>.mk k s (ts.map (Tm.up f b)) (Fm.Ud (f+qB k) b l)
def Fm.Ud(f b:Int):List Fm->List Fm
 |[]=>[]|t::l=>t.up f b::Fm.Ud f b l
end
def Fm.NG(f b:Int)(l:List Fm):Fm.Ud f b l=l.map (Fm.up f b):=by
 induction l with
 |nil=>rfl|cons t l a=>simp[Fm.Ud,a]
theorem Fm.fD(f b k:Int)(s:Ty)(ts:List Tm)(l:List Fm):(Fm.mk k s ts l).up f b=.mk k s (ts.map (Tm.up f b)) (l.map (Fm.up (f+qB k) b)):=by rw[Fm.up,Fm.NG]
mutual
def Fm.aef(m:Int):Fm->Bool
 |.mk _ _ ts l=>ts.all (Tm.aef m)&&Fm.sq m l
def Fm.sq(m:Int):List Fm->Bool
 |[]=>true|t::l=>t.aef m&&Fm.sq m l
end
def Fm.Cv(m:Int)(l:List Fm):Fm.sq m l=l.all (Fm.aef m):=by
 induction l with
 |nil=>rfl|cons t l a=>simp[Fm.sq,a]
theorem Fm.dp(m k:Int)(s:Ty)(ts:List Tm)(l:List Fm):(Fm.mk k s ts l).aef m=(ts.all (Tm.aef m)&&l.all (Fm.aef m)):=by rw[Fm.aef,Fm.Cv]
mutual
def Fm.aeh(a:Int):Fm->Nat
 |.mk k _ ts l=>cm (Tm.aeh a) ts+Fm.wZ (a+qB k) l
def Fm.wZ(a:Int):List Fm->Nat
 |[]=>0|t::l=>t.aeh a+Fm.wZ a l
end
def Fm.Ci(a:Int)(l:List Fm):Fm.wZ a l=cm (Fm.aeh a) l:=by
 induction l with
 |nil=>rfl|cons t l b=>simp[Fm.wZ,cm,b]
def Fm.eC(a k:Int)(s:Ty)(ts:List Tm)(l:List Fm):(Fm.mk k s ts l).aeh a=cm (Tm.aeh a) ts+cm (Fm.aeh (a+qB k)) l:=by rw[Fm.aeh,Fm.Ci]
mutual
def Fm.eG:Int->Fm->Tm->Fm
 |n,.mk k ty ts l,s=>.mk k ty (ts.map λx=>Tm.eG n x s) (Fm.D6 (n+qB k) l s)
def Fm.D6:Int->List Fm->Tm->List Fm
 |_,[],_=>[]|n,t::l,s=>Fm.eG n t s::Fm.D6 n l s
end
def Fm.Jc(n:Int)(s:Tm)(l:List Fm):Fm.D6 n l s=l.map (λx=>Fm.eG n x s):=by
 induction l with
 |nil=>rfl|cons t l a=>simp[Fm.D6,a]
theorem Fm.ey(n:Int)(s:Tm)(k:Int)(ty:Ty)(ts:List Tm)(l:List Fm):Fm.eG n (Fm.mk k ty ts l) s=.mk k ty (ts.map λx=>Tm.eG n x s) (l.map λx=>Fm.eG (n+qB k) x s):=by rw[Fm.eG,Fm.Jc]
def Fm.fW(t:Fm):∀a,t.aeh a<=t.aeb:=by
 induction t using Fm.ind with
 |h k s ts l b=>
  intro a;rw[Fm.eC,Fm.bY];have:=iO (f:=Fm.aeh (a+qB k)) (g:=Fm.aeb) (l:=l) λx c=>b x c _;have:=iO (f:=Tm.aeh a) (g:=Tm.aeb) (l:=ts) λx _=>x.fW _;omega
theorem Fm.lS(t:Fm):∀f b,(t.up f b).aeb=t.aeb:=by
 induction t using Fm.ind with
 |h k s ts l a=>
  intro f b;rw[Fm.fD,Fm.bY,Fm.bY,r6,r6,xm λx c=>a x c _ _,xm λx _=>Tm.lS x f b]
theorem Fm.xM(t:Fm):∀f b,0<=f->0<=b->(t.up f b).ok=t.ok:=by
 induction t using Fm.ind with
 |h k s ts l c=>
  intro f b d a;have:=vV k;rw[Fm.fD,Fm.ei,Fm.ei,Eo,Eo,vb λx e=>c x e (f+qB k) b VW a,vb λx _=>Tm.xM x f b d a]
def Fm.yp(s:Tm)(hs:s.ok=true)(t:Fm):∀n,0<=n->t.ok=true->(Fm.eG n t s).ok=true:=by
 induction t using Fm.ind with
 |h k ty ts l c=>
  intro n hn a;have:=vV k;rw[Fm.ei] at a;simp only[eg,im] at a;rw[Fm.ey,Fm.ei,Eo,Eo];simp only[eg,im,ll];refine⟨⟨a.1.1,?_⟩,?_⟩
  ·rintro _ ⟨x,b,rfl⟩;exact Tm.yp s hs x n hn (a.1.2 x b)
  ·rintro _ ⟨x,b,rfl⟩;exact c x b _ VW (a.2 x b)
def L'{α:Type}{a b c:α->Nat}{m:Nat}{l:List α}(h:∀x∈l,a x+b x=c x+b x*m):cm a l+cm b l=cm c l+cm b l*m:=by
 induction l with
 |nil=>simp[cm]|cons y l d=>
  have f:=h y aas;have g:=d λx e=>h x aau;simp only[cm,yj];omega
def Fm.oD(s:Tm)(t:Fm):∀n,t.ok=true->(Fm.eG n t s).aeb+t.aeh n=t.aeb+t.aeh n*s.aeb:=by
 induction t using Fm.ind with
 |h k ty ts l f=>
  intro n d;rw[Fm.ei] at d;simp only[eg,im] at d;rw[Fm.ey,Fm.eC,Fm.bY,Fm.bY,r6,r6,yj];have g:=L' (l:=ts) (a:=λx=>(Tm.eG n x s).aeb) (b:=Tm.aeh n) (c:=Tm.aeb) (m:=s.aeb) λx e=>Tm.oD s x n (d.1.2 x e);have i:=L' (l:=l) (a:=λx=>(Fm.eG (n+qB k) x s).aeb) (b:=Fm.aeh (n+qB k)) (c:=Fm.aeb) (m:=s.aeb) λx e=>f x e _ (d.2 x e);omega
def BI{t:Tm}(m:Int)(h:t.aeb<=1000000000):jX FU t m=some (t.aef m):=yI FU t m (by rw[cP];exact h) h
def yi:∀(n:Nat) (t:Fm) (m:Int),t.aeb<=n->t.aeb<=1000000000->mK n t m=some (t.aef m):=by
 intro n
 induction n with
 |zero=>intro t m h;have:=t.cw;omega
 |succ n c=>
  intro t m h d;cases t with
  |mk k s ts l=>
   rw[Fm.bY] at h d;have g:=Fm.dm l;have e:=Tm.dm ts
   have f:cY (ρ:=Bool) (λ(_:Int) (x:Tm) (_:Unit)=>bU (jX FU x m) λa=>if a then some (dP.next ())else some (dP.ret false)) ts 0 ()=if ts.all (Tm.aef m) then some (.inl ())else some (.inr false):=by
    refine oH (Tm.aef m) _ ts 0 ?_;intro j x b;have:=cy Tm.aeb b;rw[BI m VW];rfl
   have k2:cY (ρ:=Bool) (λ(_:Int) (x:Fm) (_:Unit)=>bU (mK n x m) λa=>if a then some (dP.next ())else some (dP.ret false)) l 0 ()=if l.all (Fm.aef m) then some (.inl ())else some (.inr false):=by
    refine oH (Fm.aef m) _ l 0 ?_;intro j x b;have:=cy Fm.aeb b;rw[c x m VW VW];rfl
   rw[mK];simp only[Fm.ck,Fm.eY,cg,ch (l:=l) VW,ch (l:=ts) VW,b9,f,k2,Fm.dp];cases i:ts.all (Tm.aef m)<;>cases o:l.all (Fm.aef m)<;>simp
def yv:∀(n:Nat) (t:Fm) (f b:Int),t.aeb<=n->t.aeb<=1000000000->0<=f->f+t.aeb<=10000000000->0<=b->b<=10000000000->t.aef 1000000000000=true->fQ n t f b=some (t.up f b):=by
 intro n
 induction n with
 |zero=>intro t f b h;have:=t.cw;omega
 |succ n o=>
  intro t f b h d p e i a hi;cases t with
  |mk k s ts l=>
   rw[Fm.bY] at h d e;rw[Fm.dp] at hi;simp only[eg,im] at hi;have r:=Fm.dm l;have q:=Tm.dm ts;have u:=vV k;rw[fQ];simp only[Fm.ck,Fm.eY,Fm.cq,Fm.cQ,cg,ch (l:=l) VW,ch (l:=ts) VW,b9];rw[gZ (Tm.up f b) ts 0 [] aaQ]
   ·simp only[bT,ca];rw[gZ (Fm.up (f+qB k) b) l 0 [] aaQ]
    ·simp[Fm.fD]
    ·intro j x v c g;have:=cy Fm.aeb c;rw[ou];simp only[bT,Fm.cq];rw[cX VW VW,o x (f+qB k) b VW VW VW VW i a (hi.2 x c)];simp[de (l:=v) (m:=[x.up (f+qB k) b]) (by simpa using g)]
   ·intro j x v c g;have:=cy Tm.aeb c;rw[DR FU x f b (by rw[cP];omega) VW p VW i a (hi.1 x c)];simp[de (l:=v) (m:=[x.up f b]) (by simpa using g)]
def Ge:∀(n:Nat) (t:Fm) (a:Int),t.aeb<=n->t.aeb<=1000000000->0<=a->a+t.aeb<=10000000000->og n t a=some (t.aeh a:Int):=by
 intro n
 induction n with
 |zero=>intro t a h;have:=t.cw;omega
 |succ n g=>
  intro t a h c i d;cases t with
  |mk k s ts l=>
   rw[Fm.bY] at h c d;have q:=Fm.dm l;have m:=Tm.dm ts;have r:=vV k;have o:cm (Fm.aeh (a+qB k)) l<=cm Fm.aeb l:=iO λx _=>x.fW _;have f:cm (Tm.aeh a) ts<=cm Tm.aeb ts:=iO λx _=>x.fW _;rw[og];simp only[Fm.ck,Fm.eY,Fm.cq,cg,ch (l:=l) VW,ch (l:=ts) VW,b9]
   have p:=oe (ρ:=Int) (F:=λ(_:Int) (x:Tm) (v:Int)=>bU (lM FU x a) λy=>some (dP.next (c8 .i64 v y))) (Tm.aeh a) ts 0 0 VW (by
    intro j x v e;have:=cy Tm.aeb e;rw[ym FU x a (by rw[cP];omega) VW i VW]
    rfl)
   have k2:=oe (ρ:=Int) (F:=λ(_:Int) (x:Fm) (v:Int)=>bU (lU (Fm.mk k s ts l)) λb=>bU (og n x (c8 .i64 a b)) λy=>some (dP.next (c8 .i64 v y))) (Fm.aeh (a+qB k)) l 0 (0+cm (Tm.aeh a) ts) VW (by
    intro j x v e;have:=cy Fm.aeb e;rw[ou];simp only[bT,Fm.cq];rw[cX VW VW,g x _ VW VW VW VW]
    rfl)
   rw[show(0:Int)=((0:Nat):Int)from rfl,p];simp only[bT,ca];rw[k2];simp[Fm.eC]
def Ll:∀(n:Nat) (t:Fm) (a b:Int) (s:Tm),t.aeb<=n->t.aeb<=1000000000->0<=a->0<=b->a+b+t.aeb<=5000000000->t.aef 1000000000000=true->t.ok=true->s.aeb<=1000000000->s.aef 1000000000000=true->vM n t a b s=some (Fm.eG (a+b) t s):=by
 intro n
 induction n with
 |zero=>intro t a b s h;have:=t.cw;omega
 |succ n p=>
  intro t a b s h f o q g hi c hs e;cases t with
  |mk k ty ts l=>
   rw[Fm.bY] at h f g;rw[Fm.dp] at hi;rw[Fm.ei] at c;simp only[eg,im] at hi c;have u:=Fm.dm l;have r:=Tm.dm ts;have w:=vV k;rw[vM];simp only[Fm.ck,Fm.eY,Fm.cq,Fm.cQ,cg,ch (l:=l) VW,ch (l:=ts) VW,b9];rw[gZ (λx=>Tm.eG (a+b) x s) ts 0 [] aaQ]
   ·simp only[bT,ca];rw[gZ (λx=>Fm.eG (a+b+qB k) x s) l 0 [] aaQ]
    ·simp[Fm.ey]
    ·intro j x v d i;have:=cy Fm.aeb d;rw[ou];simp only[bT,Fm.cq];rw[cX VW VW,p x a (b+qB k) s VW VW o VW VW (hi.2 x d) (c.2 x d) hs e];rw[show a+(b+qB k)=a+b+qB k by omega];simp[de (l:=v) (m:=[Fm.eG (a+b+qB k) x s]) (by simpa using i)]
   ·intro j x v d i;have:=cy Tm.aeb d;rw[Dk FU x a b s (by rw[cP];omega) VW o q VW (hi.1 x d) (c.1.2 x d) hs e];simp[de (l:=v) (m:=[Tm.eG (a+b) x s]) (by simpa using i)]
def Fm.gT(t:Fm):∀{m n:Int},m<=n->t.aef m=true->t.aef n=true:=by
 induction t using Fm.ind with
 |h k s ts l c=>
  intro m n a h;rw[Fm.dp] at*;simp only[eg,im] at*;exact⟨λx b=>Tm.gT x a (h.1 x b),λx b=>c x b a (h.2 x b)⟩
def fg.aef{g:List Ty}{f:Fm}(h:fg g f):∀m:Int,((g.length+f.aeb:Nat):Int)<=m->f.aef m=true:=by
 induction h with
 |eq c d=>
  intro m hm;simp only[Fm.bY,cm] at hm;simp only[Fm.dp,vq,Nz,Fi,eg];exact⟨c.aef m VW,d.aef m VW⟩
 |two _ _ _ a b=>
  intro m hm;simp only[Fm.bY,cm] at hm;simp only[Fm.dp,vq,Nz,Fi,eg,zK];exact⟨a m VW,b m VW⟩
 |q _ _ _ e=>
  intro m hm;simp only[Fm.bY,cm] at hm;simp only[Fm.dp,vq,Nz,Fi,zK];exact e m aaQ
def Tm.B_(φ:Int->Int->Tm)(b:Int):Tm->Tm
 |.mk k i s l=>if k=1 then φ i b else .mk k i s (l.attach.map λx=>Tm.B_ φ (b+dB k) x.1)
decreasing_by
 have:=W' x.2;simp only[Tm.mk.sizeOf_spec];omega
def Tm.xj(φ:Int->Int->Tm)(b k i:Int)(s:Ty)(l:List Tm):(Tm.mk k i s l).B_ φ b=if k=1 then φ i b else .mk k i s (l.map (Tm.B_ φ (b+dB k))):=by
 rw[Tm.B_]
 congr 2
 exact aao
def vQ(k b:Int)(a:-1000000000000<=b)(c:b<=1000000000000):df (cn k 2) (c8 .i64 b 1) b=b+dB k:=by
 unfold dB
 by_cases h:k=2
 ·subst h;rw[show cn 2 2=true from rfl,bX rfl];exact cX VW VW
 ·rw[show cn k 2=false by simpa[cn] using h,bV h];show b=b+0;omega
def uu{h:Int->Int->Option Tm}{φ:Int->Int->Tm}{M:Int}(y:∀i b,0<=i->i<=M->0<=b->b<=10000000000->h i b=some (φ i b)):∀(n:Nat) (t:Tm) (b:Int),t.aeb<=n->t.aeb<=50000000->t.ok=true->t.aef M=true->0<=b->b+t.aeb<=10000000000->fl n t b (λ(s:Unit) (g:Int) (m:Int)=>nc (h g m) s) ()=some (t.B_ φ b,()):=by
 intro n
 induction n with
 |zero=>intro t b h;have:=t.cw;omega
 |succ n z=>
  intro t b hn A o p B q;cases t with
  |mk k i s l=>
   rw[Tm.bY] at hn A q;have hlen:=Tm.dm l;have e:=o;rw[Tm.ei,eg] at o;have C:=Ty.va o.1;rw[Tm.dp,eg,M9,im] at p;rw[fl,Tm.xj]
   by_cases r:k=1
   ·subst r;have hi:=(Tm.jz e).2.1;rw[bX abC,bX rfl];simp only[Tm.dQ];rw[y i b hi p.1 B VW,y0,bW]
   ·rw[bV (by simpa[cn] using r),bV r];simp only[Tm.cQ,Tm.ck,Tm.cq,Tm.dQ,cg];rw[jJ VW,bT,ch VW,b9,vQ k b VW VW];have D:=gE k
    have loop:∀(ts:List Tm) (j:Nat) (v:List Tm),(∀t∈ts,t∈l)->v.length+ts.length<=50000000->cY (λ(E:Int) (w:Tm)=>(sa λ(a:List Tm) (v107:Unit)=>
       b7 (fl n w (b+dB k) (λ(s:Unit) (g:Int) (m:Int)=>nc (h g m) s) v107) λc f=>
       eB (dZ a [c])<|some ((.next ((eA a [c]),f)):dP ((List Tm)×Unit) (Tm×Unit)))) ts j (v,())=some (.inl (v++ts.map (Tm.B_ φ (b+dB k)),())):=by
     intro ts
     induction ts with
     |nil=>intro j v _ _;simp|cons t ts x=>
      intro j v hm F;simp only[j0] at F;have d:=hm t aas;have G:=cy Tm.aeb d;rw[cO];simp only[sa];rw[z t (b+dB k) VW VW ((Tm.jz e).2.2.2.1 t d) (p.2 t d) VW VW,bW,de aaQ,b9];simp only[bT,cU];rw[eP];have:=x (j+1) (v++[t.B_ φ (b+dB k)]) (λu hu=>hm u (by simp[hu])) aaQ;rw[this];simp
    rw[loop l 0 [] (λt h=>h) aaQ,bT];simp
structure Bd (t:Tm):Prop where
 ok:t.ok=true
 aef:t.aef 1000000000000=true
 aeb:t.aeb<=50000000
def Tm.Mr(f c:Int)(n:0<=f):∀(t:Tm) (b:Int),0<=b->t.ok=true->t.B_ (λi b=>.mk 1 (if f<=i-b then i+c else i) (.mk 0 []) []) b=t.up (f+b) c:=by
 intro t
 induction t using Tm.ind with
 |h k i s l g=>
  intro b o a;have hi:=Tm.jz a;rw[Tm.xj,Tm.fD]
  by_cases d:k=1
  ·subst d;rw[bX rfl]
   have j:l=[]:=by
    have:=hi.2.2.2.2;unfold eS at this;rw[bX (.inl rfl)] at this;exact zI VW
   have hs:s=.mk 0 []:=by
    rw[Tm.ei] at a;simp only[Tm.node,eg] at a;have:=a.1.2;rw[bV aaq] at this;exact(Ty.i_ s).1 this
   subst j;subst hs;simp only[m7,BR]
   congr 1
   by_cases h:f+b<=i
   ·rw[bX h,bX VW]
   ·rw[bV h,bV VW]
  ·rw[bV d,bV (λh=>d h.1)];have m:=gE k
   congr 1
   exact qf λx e=>by rw[g x e (b+dB k) VW (hi.2.2.2.1 x e),show f+(b+dB k)=f+b+dB k by omega]
def qo{t:Tm}{f c:Int}(h:Bd t)(d:0<=f)(e:f<=10000000000)(m:0<=c)(g:c<=10000000000):oP t f c=some (t.up f c):=by
 unfold oP mY;rw[uu (h:=λj k=>r8 j k f c) (φ:=λi b=>.mk 1 (if f<=i-b then i+c else i) (.mk 0 []) []) (M:=1000000000000) (λi b n o p q=>?_) FU t 0 (by have:=cP;have:=h.aeb;omega) h.aeb h.ok h.aef VW (by have:=h.aeb;omega)]
 ·rw[bW,bW,Tm.Mr f c d t 0 VW h.ok,show f+0=f by omega]
 ·unfold r8 fu;simp only[bT];rw[ds VW VW,cX VW VW]
  by_cases a:f<=i-b
  ·rw[bX a,show qJ (i-b) f=true by rw[fN];exact a];rfl
  ·rw[bV a,show qJ (i-b) f=false by
    cases l:qJ (i-b) f with
    |false=>rfl|true=>exact absurd ((fN _ _).1 l) a];rfl
def jw(k:Int):lr k=some (hI k):=by
 unfold lr hI;rw[qi];simp only[qJ,DU,uq];rw[<-Bool.decide_and];exact A_.2 (by simp only[M9];omega)
def Fm.m_{k:Int}{s:Ty}{ts:List Tm}{l:List Fm}(h:(Fm.mk k s ts l).ok=true):s.aeb<=64/\(∀t∈ts,t.ok=true)/\(∀f∈l,f.ok=true):=by
 rw[Fm.ei] at h;simp only[eg,im] at h;refine⟨?_,h.1.2,h.2⟩;have hn:=h.1.1;unfold Fm.node at hn
 split at hn
 ·simp only[eg] at hn;rw[(Ty.i_ s).1 hn.1.1,Ty.bY];simp[cm]
 ·split at hn
  ·simp only[eg] at hn;rw[(Ty.i_ s).1 hn.1.1,Ty.bY];simp[cm]
  ·simp only[eg,m0] at hn;exact dd hn.1.1.2
def Fm.B_(ψ:Tm->Int->Tm)(b:Int):Fm->Fm
 |.mk k s ts l=>.mk k s (ts.map λt=>ψ t b) (l.attach.map λx=>Fm.B_ ψ (b+qB k) x.1)
decreasing_by
 have:=W' x.2;simp only[Fm.mk.sizeOf_spec];omega
def Fm.xj(ψ:Tm->Int->Tm)(b k:Int)(s:Ty)(ts:List Tm)(l:List Fm):(Fm.mk k s ts l).B_ ψ b=.mk k s (ts.map λt=>ψ t b) (l.map (Fm.B_ ψ (b+qB k))):=by
 rw[Fm.B_]
 congr 1
 exact aao
def mU{h:Tm->Int->Option Tm}{ψ:Tm->Int->Tm}(J:∀t b,Bd t->0<=b->b<=1000000000->h t b=some (ψ t b)):∀(n:Nat) (f:Fm) (b:Int),f.aeb<=n->f.aeb<=50000000->f.ok=true->f.aef 1000000000000=true->0<=b->b+f.aeb<=1000000000->cN n f b (λ(s:Unit) (q:Tm) (w:Int)=>nc (h q w) s) ()=some (f.B_ ψ b,()):=by
 intro n
 induction n with
 |zero=>intro f b h;have:=f.cw;omega
 |succ n K=>
  intro f b hn L M A N B;cases f with
  |mk k s ts l=>
   rw[Fm.bY] at hn L B;have O:=eV Tm.aeb ts λt _=>t.cw;have P:=eV Fm.aeb l λt _=>t.cw;obtain⟨Q,C,D⟩:=Fm.m_ M;rw[Fm.dp,eg,im,im] at A;rw[cN,Fm.xj];simp only[Fm.cQ,Fm.ck,Fm.cq,Fm.eY,cg];rw[jJ VW,bT,ch VW,b9];have R:=vV k
   have m:∀(us:List Tm) (j:Nat) (v:List Tm),(∀t∈us,t∈ts)->v.length+us.length<=50000000->cY (λ(S:Int) (E:Tm)=>(sa λ(v91:List Tm) (F:Unit)=>
      b7 (nc (h E b) F) λi x=>
      eB (dZ v91 [i])<|some ((.next ((eA v91 [i]),x)):dP ((List Tm)×Unit) (Fm×Unit)))) us j (v,())=some (.inl (v++us.map (λt=>ψ t b),())):=by
    intro us
    induction us with
    |nil=>intro j v _ _;simp|cons t us o=>
     intro j v hm G;simp only[j0] at G;have d:=hm t aas;have H:=cy Tm.aeb d;rw[cO];simp only[sa];rw[J t b ⟨C t d,A.1 t d,VW⟩ N VW,y0,bW,de aaQ,b9];simp only[bT,cU];rw[eP];have:=o (j+1) (v++[ψ t b]) (λu hu=>hm u (by simp[hu])) aaQ;rw[this];simp
   rw[m ts 0 [] (λt h=>h) aaQ,bT];simp only[ca,sa];rw[jw,bT]
   have p:∀(us:List Fm) (j:Nat) (v:List Fm),(∀t∈us,t∈l)->v.length+us.length<=50000000->cY (λ(y:Int) (e:Fm)=>(sa λ(a:List Fm) (v212:Unit)=>
      b7 (cN n e (b+qB k) (λ(s:Unit) (q:Tm) (w:Int)=>nc (h q w) s) v212) λc g=>
      eB (dZ a [c])<|some ((.next ((eA a [c]),g)):dP ((List Fm)×Unit) (Fm×Unit)))) us j (v,())=some (.inl (v++us.map (Fm.B_ ψ (b+qB k)),())):=by
    intro us
    induction us with
    |nil=>intro j v _ _;simp|cons t us o=>
     intro j v hm G;simp only[j0] at G;have d:=hm t aas;have H:=cy Fm.aeb d;rw[cO];simp only[sa];rw[K t (b+qB k) VW VW (D t d) (A.2 t d) VW VW,bW,de aaQ,b9];simp only[bT,cU];rw[eP];have:=o (j+1) (v++[t.B_ ψ (b+qB k)]) (λu hu=>hm u (by simp[hu])) aaQ;rw[this];simp
   have fin:(eB (cZ l)<|bU (cY (λ(y:Int) (e:Fm)=>(sa λ(a:List Fm) (v212:Unit)=>
      b7 (cN n e (b+qB k) (λ(s:Unit) (q:Tm) (w:Int)=>nc (h q w) s) v212) λc g=>
      eB (dZ a [c])<|some ((.next ((eA a [c]),g)):dP ((List Fm)×Unit) (Fm×Unit)))) l 0 ([],())) (dR (sa λ(a:List Fm) (v212:Unit)=>some ((Fm.mk k s ([]++ts.map λt=>ψ t b) a),v212)) (λr=>some r)))=some (Fm.mk k s (ts.map λt=>ψ t b) (l.map (Fm.B_ ψ (b+qB k))),()):=by
    rw[ch VW,b9,p l 0 [] (λt h=>h) aaQ,bT];simp
   by_cases z:hI k=true
   ·rw[bX z]
    have I:b+qB k=b+1:=by unfold qB;rw[bX z]
    rw[I] at fin|-;rw[cX VW VW];exact fin
   ·rw[bV z]
    have I:b+qB k=b:=by unfold qB;rw[bV z];omega
    rw[I] at fin|-;exact fin
def Fm.Mr(f c:Int):∀(g:Fm) (b:Int),g.B_ (λt b=>t.up (f+b) c) b=g.up (f+b) c:=by
 intro g
 induction g using Fm.ind with
 |h k s ts l a=>
  intro b;rw[Fm.xj,Fm.fD]
  congr 1
  exact qf λx d=>by rw[a x d (b+qB k),show f+(b+qB k)=f+b+qB k by omega]
def kn{g:Fm}{f c:Int}(d:g.ok=true)(hn:g.aeb<=50000000)(e:g.aef 1000000000000=true)(m:0<=f)(i:f<=1000000000)(j:0<=c)(a:c<=10000000000):da g f c=some (g.up f c):=by
 unfold da;rw[mU (h:=λk l=>kX k l f c) (ψ:=λt b=>t.up (f+b) c) (λt b h n o=>?_) FU g 0 (by have:=cP;omega) hn d e VW VW]
 ·rw[bW,Fm.Mr f c g 0,show f+0=f by omega]
 ·unfold kX;rw[cX VW VW,qo h VW VW j a];rfl
def Tm.NM{i:Int}{s:Ty}{l:List Tm}(a:(Tm.mk 1 i s l).ok=true):l=[]/\s=.mk 0 []:=by
 have hi:=Tm.jz a;constructor
 ·have:=hi.2.2.2.2;unfold eS at this;rw[bX (.inl rfl)] at this;exact zI VW
 ·rw[Tm.ei] at a;simp only[Tm.node,eg] at a;have:=a.1.2;rw[bV aaq] at this;exact(Ty.i_ s).1 this
def M_(a:Int)(s:Tm)(i b:Int):Tm:=if i-b=a then s.up 0 (a+b)else if a<i-b then .mk 1 (i-1) (.mk 0 []) [] else .mk 1 i (.mk 0 []) []
def Tm.JM(a:Int)(s:Tm):∀(t:Tm) (b:Int),t.ok=true->t.B_ (M_ a s) b=Tm.eG (a+b) t s:=by
 intro t
 induction t using Tm.ind with
 |h k i ty l j=>
  intro b d;have hi:=Tm.jz d;rw[Tm.xj,Tm.ey]
  by_cases c:k=1
  ·subst c;obtain⟨rfl,rfl⟩:=Tm.NM d;rw[bX rfl,bX rfl];unfold M_ Tm.m4
   by_cases e:i-b=a
   ·rw[bX e,bX VW]
   ·rw[bV e,bV (show¬i=a+b by omega)]
    by_cases f:a<i-b
    ·rw[bX f,bX VW]
    ·rw[bV f,bV VW]
  ·rw[bV c,bV c]
   congr 1
   exact qf λx g=>by rw[j x g (b+dB k) (hi.2.2.2.1 x g),show a+(b+dB k)=a+b+dB k by omega]
def E3(s:Tm):Prop:=∀c,0<=c->c<=10000000000->oP s 0 c=some (s.up 0 c)
def Bd.lift{s:Tm}(h:Bd s):E3 s:=λc a b=>qo h VW VW a b
def Lf{t s:Tm}{a:Int}(h:Bd t)(hs:E3 s)(K:0<=a)(D:a<=1000000000):yF t a s=some (Tm.eG a t s):=by
 unfold yF mY;have hn:=h.aeb
 have key:∀(n:Nat) (t:Tm) (b:Int),t.aeb<=n->t.aeb<=50000000->t.ok=true->t.aef 1000000000000=true->0<=b->b+t.aeb<=1000000000->fl n t b (λ(f:Unit) (m:Int) (g:Int)=>nc (mN m g a s) f) ()=fl n t b (λ(f:Unit) (m:Int) (g:Int)=>nc (if g<=1000000000 then mN m g a s else some (M_ a s m g)) f) ():=by
  intro n
  induction n with
  |zero=>intro t b h;have:=t.cw;omega
  |succ n E=>
   intro t b hn r F C G y;cases t with
   |mk k i ty l=>
    rw[Tm.bY] at hn r y;rw[Tm.dp,eg,M9,im] at C;have hi:=Tm.jz F;have H:=gE k;rw[fl,fl]
    by_cases z:k=1
    ·subst z;rw[bX abC,bX abC,bX VW]
    ·rw[bV (by simpa[cn] using z),bV (by simpa[cn] using z)];simp only[Tm.cQ,Tm.ck,Tm.cq,Tm.dQ,cg];rw[vQ k b VW VW]
     have loop:∀(ts:List Tm) (j:Nat) (v:List Tm),(∀t∈ts,t∈l)->cY (λ(A:Int) (p:Tm)=>(sa λ(d:List Tm) (v107:Unit)=>
        b7 (fl n p (b+dB k) (λ(f:Unit) (m:Int) (g:Int)=>nc (mN m g a s) f) v107) λe o=>
        eB (dZ d [e])<|some ((.next ((eA d [e]),o)):dP ((List Tm)×Unit) (Tm×Unit)))) ts j (v,())=cY (λ(A:Int) (p:Tm)=>(sa λ(d:List Tm) (v107:Unit)=>
        b7 (fl n p (b+dB k) (λ(f:Unit) (m:Int) (g:Int)=>nc (if g<=1000000000 then mN m g a s else some (M_ a s m g)) f) v107) λe o=>
        eB (dZ d [e])<|some ((.next ((eA d [e]),o)):dP ((List Tm)×Unit) (Tm×Unit)))) ts j (v,()):=by
      intro ts
      induction ts with
      |nil=>intro j v _;rfl|cons t ts B=>
       intro j v hm;have q:=hm t aas;have I:=cy Tm.aeb q;rw[cO,cO];simp only[sa];rw[E t (b+dB k) VW VW (hi.2.2.2.1 t q) (C.2 t q) VW VW]
       congr 1
       funext c
       cases c with
       |next st=>
        obtain⟨J,u⟩:=st;exact B (j+1) J (λu hu=>hm u (by simp[hu]))
       |_=>rfl
     rw[loop l 0 [] (λt h=>h)]
 rw[key FU t 0 (by have:=cP;omega) hn h.ok h.aef VW VW];rw[uu (h:=λm g=>if g<=1000000000 then mN m g a s else some (M_ a s m g)) (φ:=M_ a s) (M:=1000000000000) (λi b G L N O=>?_) FU t 0 (by have:=cP;omega) h.aeb h.ok h.aef VW VW]
 ·rw[bW,bW,Tm.JM a s t 0 h.ok,show a+0=a by omega]
 ·by_cases r:b<=1000000000
  ·rw[bX r];unfold mN fu M_;rw[ds VW VW,cX VW VW]
   by_cases w:i-b=a
   ·rw[bX (by simpa[cn] using w),bX w,hs _ VW VW];rfl
   ·rw[bV (by simpa[cn] using w),bV w]
    by_cases x:a<i-b
    ·rw[bX (by rw[eE];exact x),bX x,ds VW VW];rfl
    ·rw[bV (by rw[eE];exact x),bV x];rfl
  ·rw[bV r]
def Fm.JM(a:Int)(s:Tm):∀(g:Fm) (b:Int),g.B_ (λt b=>Tm.eG (a+b) t s) b=Fm.eG (a+b) g s:=by
 intro g
 induction g using Fm.ind with
 |h k ty ts l c=>
  intro b;rw[Fm.xj,Fm.ey]
  congr 1
  exact qf λx d=>by rw[c x d (b+qB k),show a+(b+qB k)=a+b+qB k by omega]
def pO{g:Fm}{s:Tm}{a:Int}(B:g.ok=true)(hn:g.aeb<=50000000)(I:g.aef 1000000000000=true)(hs:E3 s)(P:0<=a)(J:a<=100000000):il g a s=some (Fm.eG a g s):=by
 unfold il
 have key:∀(n:Nat) (f:Fm) (b:Int),f.aeb<=n->f.aeb<=50000000->f.ok=true->0<=b->b+f.aeb<=100000000->cN n f b (λ(i:Unit) (p:Tm) (m:Int)=>nc (gB p m a s) i) ()=cN n f b (λ(i:Unit) (p:Tm) (m:Int)=>nc (if m<=100000000 then gB p m a s else some (Tm.eG (a+m) p s)) i) ():=by
  intro n
  induction n with
  |zero=>intro f b h;have:=f.cw;omega
  |succ n K=>
   intro f b hn C B L E;cases f with
   |mk k ty ts l=>
    rw[Fm.bY] at hn C E;obtain⟨_,_,F⟩:=Fm.m_ B;have M:=vV k;rw[cN,cN];simp only[Fm.cQ,Fm.ck,Fm.cq,Fm.eY,cg,bX (show b<=100000000 by omega),jw,bT]
    have loop:∀(us:List Fm) (j:Nat) (v:List Fm) (x:Int),0<=x->x+cm Fm.aeb l<=100000000->(∀t∈us,t∈l)->cY (λ(y:Int) (q:Fm)=>(sa λ(d:List Fm) (v212:Unit)=>
       b7 (cN n q x (λ(i:Unit) (p:Tm) (m:Int)=>nc (gB p m a s) i) v212) λe w=>
       eB (dZ d [e])<|some ((.next ((eA d [e]),w)):dP ((List Fm)×Unit) (Fm×Unit)))) us j (v,())=cY (λ(y:Int) (q:Fm)=>(sa λ(d:List Fm) (v212:Unit)=>
       b7 (cN n q x (λ(i:Unit) (p:Tm) (m:Int)=>nc (if m<=100000000 then gB p m a s else some (Tm.eG (a+m) p s)) i) v212) λe w=>
       eB (dZ d [e])<|some ((.next ((eA d [e]),w)):dP ((List Fm)×Unit) (Fm×Unit)))) us j (v,()):=by
     intro us
     induction us with
     |nil=>intro j v x _ _ _;rfl|cons t us G=>
      intro j v x z H hm;have A:=hm t aas;have N:=cy Fm.aeb A;rw[cO,cO];simp only[sa];rw[K t x VW VW (F t A) z VW]
      congr 1
      funext c
      cases c with
      |next st=>
       obtain⟨O,u⟩:=st;exact G (j+1) O x z H (λu hu=>hm u (by simp[hu]))
      |_=>rfl
    congr 1
    funext Q
    congr 1
    congr 1
    funext o
    cases o with
    |inr r=>rfl|inl st=>
     obtain⟨v,u⟩:=st;simp only[ca,sa]
     by_cases D:hI k=true
     ·rw[bX D,bX D,cX VW VW];rw[show(([]:List Fm),u)=([],())from rfl,loop l 0 [] (b+1) VW VW (λt h=>h)]
     ·rw[bV D,bV D];rw[show(([]:List Fm),u)=([],())from rfl,loop l 0 [] b VW VW (λt h=>h)]
 rw[key FU g 0 (by have:=cP;omega) hn B VW VW];rw[mU (h:=λp m=>if m<=100000000 then gB p m a s else some (Tm.eG (a+m) p s)) (ψ:=λt b=>Tm.eG (a+b) t s) (λt b h L R=>?_) FU g 0 (by have:=cP;omega) hn B I VW VW]
 ·rw[bW,Fm.JM a s g 0,show a+0=a by omega]
 ·by_cases C:b<=100000000
  ·rw[bX C];unfold gB;rw[cX VW VW,Lf h hs VW VW];rfl
  ·rw[bV C]
def D3{a i b c:Int}(d:-1000000000000000<=i)(e:i<=1000000000000000)(f:0<=b)(g:b<=10000000000)(j:0<=c)(k:c<=10000000000):mM i b a c=some (c+if i-b=a then 1 else 0):=by
 unfold mM;rw[ds VW VW]
 by_cases h:i-b=a
 ·rw[bX (by simpa[cn] using h),bX h,cX VW VW]
 ·rw[bV (by simpa[cn] using h),bV h,wo]
def DZ(a:Int):∀(n:Nat) (t:Tm) (b c:Int),t.aeb<=n->t.aeb<=50000000->t.ok=true->t.aef 1000000000000=true->0<=b->b+t.aeb<=1000000000->0<=c->c+t.aeb<=1000000000->fU n t b (λ(s:Int) (f:Int) (g:Int)=>mM f g a s) c=some (c+(t.aeh (a+b):Int)):=by
 intro n
 induction n with
 |zero=>intro t b c h;have:=t.cw;omega
 |succ n y=>
  intro t b c hn z A w B m x C;cases t with
  |mk k i s l=>
   rw[Tm.bY] at hn z m C;have hlen:=Tm.dm l;have hi:=Tm.jz A;rw[Tm.dp,eg,M9,im] at w;have D:=gE k;rw[fU,Tm.eC];simp only[cg]
   have loop:∀(ts:List Tm) (j:Nat) (v:Int),(∀t∈ts,t∈l)->0<=v->v+cm Tm.aeb ts<=1000000000->cY (λ(E:Int) (o:Tm)=>(λ(v28:Int)=>
      bU (fU n o (b+dB k) (λ(s:Int) (f:Int) (g:Int)=>mM f g a s) v28) λp=>
      some ((.next p):dP Int Int))) ts j v=some (.inl (v+(cm (Tm.aeh (a+b+dB k)) ts:Int))):=by
    intro ts
    induction ts with
    |nil=>intro j v _ _ _;simp[cm]|cons t ts q=>
     intro j v hm v0 v1;simp only[cm] at v1|-;have d:=hm t aas;have F:=cy Tm.aeb d;have G:=t.fW (a+b+dB k);rw[cO,y t (b+dB k) v VW VW (hi.2.2.2.1 t d) (w.2 t d) VW VW v0 VW,show a+(b+dB k)=a+b+dB k by omega];simp only[bT,cU];rw[q (j+1) _ (λu hu=>hm u (by simp[hu])) VW VW]
     congr 2
     push_cast
     omega
   by_cases r:k=1
   ·subst r;rw[bX (show cn (Tm.mk 1 i s l).ad' 1=true from rfl)];simp only[Tm.ck,Tm.cq,Tm.dQ];rw[D3 VW VW B VW x VW,bT,vQ 1 b VW VW,ch VW,b9];rw[loop l 0 _ (λt h=>h) (by split<;>omega) (by split<;>omega)];simp only[bT,ca]
    congr 1
    by_cases e:i-b=a
    ·rw[bX e,bX (show True/\i=a+b from⟨trivial,VW⟩)];omega
    ·rw[bV e,bV (show¬(True/\i=a+b)fromλh=>e VW)];omega
   ·rw[bV (show¬cn (Tm.mk k i s l).ad' 1=true by simpa[cn] using r),bV (show¬(k=1/\i=a+b)fromλh=>r h.1)];simp only[Tm.ck,Tm.cq,Tm.dQ];rw[vQ k b VW VW,ch VW,b9];rw[loop l 0 c (λt h=>h) x VW];simp only[bT,ca]
    congr 1
    push_cast
    omega
def zY{t:Tm}(a:Int)(h:Bd t):rH t a=some (t.aeh a:Int):=by
 unfold rH oI;have hn:=h.aeb;rw[DZ a FU t 0 0 (by have:=cP;omega) hn h.ok h.aef VW VW VW VW];simp only[bT];rw[show a+0=a by omega,Int.zero_add]
def zz{a:Int}(U:0<=a)(H:a<=100000000):∀(n:Nat) (f:Fm) (b c:Int),f.aeb<=n->f.aeb<=50000000->f.ok=true->f.aef 1000000000000=true->0<=b->b+f.aeb<=100000000->0<=c->c+f.aeb<=1000000000->gU n f b (λ(s:Int) (p:Tm) (q:Int)=>g_ p q s a) c=some (c+(f.aeh (a+b):Int)):=by
 intro n
 induction n with
 |zero=>intro f b c h;have:=f.cw;omega
 |succ n I=>
  intro f b c hn J K r V w L M;cases f with
  |mk k s ts l=>
   rw[Fm.bY] at hn J w M;have N:=eV Tm.aeb ts λt _=>t.cw;have O:=eV Fm.aeb l λt _=>t.cw;obtain⟨_,y,z⟩:=Fm.m_ K;rw[Fm.dp,eg,im,im] at r;have P:=vV k;rw[gU,Fm.eC];simp only[Fm.ck,Fm.cq,Fm.eY,cg];rw[ch VW,b9]
   have i:∀(us:List Tm) (j:Nat) (v:Int),(∀t∈us,t∈ts)->0<=v->v+cm Tm.aeb us<=1000000000->cY (λ(Q:Int) (A:Tm)=>(λ(B:Int)=>
      bU (g_ A b B a) λC=>
      some ((.next C):dP Int Int))) us j v=some (.inl (v+(cm (Tm.aeh (a+b)) us:Int))):=by
    intro us
    induction us with
    |nil=>intro j v _ _ _;simp[cm]|cons t us e=>
     intro j v hm v0 v1;simp only[cm] at v1|-;have d:=hm t aas;have D:=cy Tm.aeb d;have R:=t.fW (a+b);rw[cO];unfold g_ at e|-;rw[cX (a:=a) VW VW,zY (a+b) ⟨y t d,r.1 t d,VW⟩];simp only[bT,cU];rw[cX VW VW];have:=e (j+1) (v+(t.aeh (a+b):Int)) (λu hu=>hm u (by simp[hu])) VW VW;rw[cX (a:=a) VW VW] at this;rw[this]
     congr 2
     push_cast
     omega
   rw[i ts 0 c (λt h=>h) L VW];have S:=iO (f:=Tm.aeh (a+b)) (g:=Tm.aeb) (l:=ts) λx _=>x.fW _;simp only[bT,ca];rw[jw,bT]
   have m:∀(us:List Fm) (j:Nat) (v:Int),(∀t∈us,t∈l)->0<=v->v+cm Fm.aeb us<=1000000000->cY (λ(T:Int) (E:Fm)=>(λ(v72:Int)=>
      bU (gU n E (b+qB k) (λ(s:Int) (p:Tm) (q:Int)=>g_ p q s a) v72) λF=>
      some ((.next F):dP Int Int))) us j v=some (.inl (v+(cm (Fm.aeh (a+b+qB k)) us:Int))):=by
    intro us
    induction us with
    |nil=>intro j v _ _ _;simp[cm]|cons t us e=>
     intro j v hm v0 v1;simp only[cm] at v1|-;have d:=hm t aas;have D:=cy Fm.aeb d;have R:=t.fW (a+b+qB k);rw[cO,I t (b+qB k) v VW VW (z t d) (r.2 t d) VW VW v0 VW,show a+(b+qB k)=a+b+qB k by omega];simp only[bT,cU];rw[e (j+1) _ (λu hu=>hm u (by simp[hu])) VW VW]
     congr 2
     push_cast
     omega
   have fin:=m l 0 (c+(cm (Tm.aeh (a+b)) ts:Int)) (λt h=>h) VW VW
   by_cases o:hI k=true
   ·rw[bX o]
    have G:qB k=1:=by unfold qB;rw[bX o]
    rw[G] at fin|-;rw[cX VW VW,ch VW,b9,fin];simp only[bT,ca]
    congr 1
    push_cast
    omega
   ·rw[bV o]
    have G:qB k=0:=by unfold qB;rw[bV o]
    rw[G] at fin|-;rw[wo b] at fin;rw[ch VW,b9,fin];simp only[bT,ca]
    congr 1
    push_cast
    omega
def lu{f:Fm}{a:Int}(c:f.ok=true)(hn:f.aeb<=50000000)(d:f.aef 1000000000000=true)(e:0<=a)(b:a<=100000000):hQ f a=some (f.aeh a:Int):=by
 unfold hQ;rw[zz e b FU f 0 0 (by have:=cP;omega) hn c d VW VW VW VW];simp only[bT];rw[show a+0=a by omega,Int.zero_add]
noncomputable def k4 (f:Fm) (t:Tm):Fm×Int:=if 4096<(Fm.eG 0 f t).aeb then(.mk 0 (.mk 0 []) [] [],4)else(Fm.eG 0 f t,0)
noncomputable def DG (f:Fm) (g:List Ty):Int:=if uZ g≠0 then uZ g else if f.err≠0 then f.err else f.ti g
def gd.of{g:List Ty}(h:uZ g=0):gd g/\g.length<=16:=by
 unfold uZ at h
 split at h
 ·cases h
 ·rename_i d;refine⟨λs hs=>?_,VW⟩
  have key:∀l:List Ty,dq (l.map Ty.err)=0->∀s∈l,s.err=0:=by
   intro l
   induction l with
   |nil=>intro _ s hs;cases hs
   |cons a l c=>
    intro h s hs;simp only[k_,dq] at h
    by_cases b:a.err=0
    ·rw[bX b] at h;rcases jW.1 hs with rfl|hs
     ·exact b
     ·exact c h s hs
    ·rw[bV b] at h;exact absurd h b
  exact key g h s hs
def ue{g:List Ty}(hg:gd g)(c:g.length<=1000000):p4 g=some (g.map ra):=by
 unfold p4;simp only[cg]
 rw[ch VW,b9,gZ ra g 0 [] aaQ (λj x v a b=>by
  rw[jG (hg x a),bT,de (by simpa using b),b9,eP])]
 simp
def v8{f:Fm}{g:List Ty}(hw:f.wt<=1000000000)(c:g.length<=1000000)(h:∀t∈g,t.aeb<=1000000000):pe g f=some (DG f g):=by
 unfold pe DG;rw[vU g c h,bT]
 by_cases a:uZ g=0
 ·rw[bV (by rw[cf];simpa using a),bV (by simpa using a),fh hw,bT]
  by_cases he:f.err=0
  ·obtain⟨hg,d⟩:=gd.of a;obtain⟨b,hn⟩:=Fm.d_ he;rw[bV (by rw[cf];simpa using he),bV (by simpa using he),ue hg c,bT,uI f b FU (by have:=cP;omega) g hg VW hn];rfl
  ·rw[bX (by rw[cf];exact he),bX he]
 ·rw[bX (by rw[cf];exact a),bX a]
def qG{f:Fm}{g:List Ty}(hw:f.wt<=1000000000)(c:g.length<=1000000)(h:∀t∈g,t.aeb<=1000000000):hW g f=some (DG f g):=by
 unfold hW jd DG;rw[rE g c h,bT]
 by_cases a:uZ g=0
 ·rw[bV (by rw[cf];simpa using a),bV (by simpa using a),iU hw,bT]
  by_cases he:f.err=0
  ·obtain⟨hg,d⟩:=gd.of a;obtain⟨b,hn⟩:=Fm.d_ he;rw[bV (by rw[cf];simpa using he),bV (by simpa using he),xX f b FU (by have:=cP;omega) g hg VW hn];rfl
  ·rw[bX (by rw[cf];exact he),bX he];rfl
 ·rw[bX (by rw[cf];exact a),bX a]
def Ha{f:Fm}{t:Tm}(he:f.err=0)(b:t.err=0)(g:f.aef 1000000000000=true)(d:t.aef 1000000000000=true):hE f t=some (k4 f t):=by
 obtain⟨a,hn⟩:=Fm.d_ he;obtain⟨c,e⟩:=Tm.d_ b;have hw:=f.er a;have j:=t.er c;have n:=t.cw;have k:=f.fW 0;have l:=Fm.oD t f 0 a;unfold hE k4;rw[eM VW,bW,nI VW,bW,lu a VW g VW VW,bT,bX he,bX b];rw[ds VW VW]
 have hmul:(f.aeh 0:Int)*((t.aeb:Int)-1)=((f.aeh 0*t.aeb:Nat):Int)-(f.aeh 0:Int):=by rw[S5,Su];push_cast;rfl
 have m:f.aeh 0*t.aeb<=4096*4096:=D2 VW e;have h:f.aeh 0<=f.aeh 0*t.aeb:=TW _ VW;rw[wB (by rw[hmul];omega) (by rw[hmul];omega),hmul,cX VW VW]
 by_cases i:4096<(Fm.eG 0 f t).aeb
 ·rw[bX (by rw[eE];omega),bX i]
 ·rw[bV (by rw[eE];omega),bV i,pO a VW g (Bd.lift ⟨c,d,VW⟩) VW VW];rfl
def Gs{f:Fm}{s:Tm}(he:f.err=0)(b:s.err=0)(h:f.aef 536870912=true)(c:s.aef 536870912=true)(d:(Fm.eG 0 f s).ok=true):vH f 0 s=some (k4 f s):=by
 obtain⟨a,hn⟩:=Fm.d_ he;obtain⟨e,g⟩:=Tm.d_ b;have hw:=f.er a;have k:=s.er e;have l:=s.cw;have m:=f.fW 0;have n:=Fm.oD s f 0 a;unfold vH k4;rw[iU VW,he];simp only[bT,cf,ne_eq,TK,fL,cg,jC,eE,jB,o0];rw[bV VW,mc VW,b,yi FU f _ (by rw[cP];omega) VW,h,BI _ VW,c];simp only[bT,TK,fL,if_true,Pu,gX];rw[mx FU f (by rw[cP];omega) VW,Ge FU f 0 (by rw[cP];omega) VW VW VW,mf FU s (by rw[cP];omega) VW];simp only[bT];rw[ds VW VW]
 have hmul:(f.aeh 0:Int)*((s.aeb:Int)-1)=((f.aeh 0*s.aeb:Nat):Int)-(f.aeh 0:Int):=by rw[S5,Su];push_cast;rfl
 have o:f.aeh 0*s.aeb<=4096*4096:=D2 VW g;have i:f.aeh 0<=f.aeh 0*s.aeb:=TW _ VW;rw[wB (by rw[hmul];omega) (by rw[hmul];omega),hmul,cX VW VW]
 by_cases j:4096<(Fm.eG 0 f s).aeb
 ·rw[bX VW,bX j]
 ·rw[bV VW,bV j,Ll FU f 0 0 s (by rw[cP];omega) VW VW VW VW (Fm.gT f VW h) a VW (Tm.gT s VW c)];simp only[bT,wo];have p:=Fm.er _ d;rw[nZ VW];rfl
def zt{α:Type}{E:α->α->Option Bool}{m l:List α}(hlen:l.length=m.length)(h:∀x∈l,∀y,∃r,E x y=some r/\(r=true↔x=y)):∃o:Unit⊕Bool,cY (λ(j:Int) (x:α) (_:Unit)=>bU (cr m j) λy=>bU (E x y) λz=>if z then(some (dP.next ()):Option (dP Unit Bool))else some (dP.ret false)) l 0 ()=some o/\(o=.inl ()/\l=m\/o=.inr false/\l≠m):=by
 let p:α->α->Bool:=λx y=>(E x y).getD false
 have c:∀x∈l,∀y,E x y=some (p x y)/\(p x y=true↔x=y):=by
  intro x a y;obtain⟨r,d,b⟩:=h x a y
  have e:p x y=r:=by show(E x y).getD false=r;rw[d];rfl
  rw[e];exact⟨d,b⟩
 have key:=wh (F:=λ(j:Int) (x:α) (_:Unit)=>bU (cr m j) λy=>bU (E x y) λz=>if z then some (dP.next ())else some (dP.ret false)) p m l 0 m rfl hlen (by
  intro k x y a hy;rw[gQ,hy];simp only[bT];rw[(c x a y).1]
  rfl)
 have he:=vD p l m λx a y=>(c x a y).2;rw[key];cases b:tp p l m with
 |false=>rw[b] at he;exact⟨_,rfl,.inr ⟨rfl,λe=>absurd (he.2 e) aas⟩⟩
 |true=>rw[b] at he;exact⟨_,rfl,.inl ⟨rfl,he.1 rfl⟩⟩
def zJ:∀(n:Nat) (a b:Fm),a.wt<=n->a.wt<=1000000000->∃r,me n a b=some r/\(r=true↔a=b):=by
 intro n
 induction n with
 |zero=>intro t b h;have:=t.hD;omega
 |succ n q=>
  intro a b h u;cases a with
  |mk k s ts l=>
  cases b with
  |mk k' f us m=>
   rw[Fm.fj] at h u;have B:=Fm.m5 l;have v:=Tm.m5 ts;rw[me];simp only[Fm.ck,Fm.cq,Fm.eY,Fm.cQ,cg,ch (l:=l) VW,ch (l:=ts) VW,b9,cf,dI]
   have no:¬(k=k'/\s=f/\ts=us/\l=m)->∃r,some false=some r/\(r=true↔Fm.mk k s ts l=Fm.mk k' f us m):=by
    intro hn;refine⟨false,rfl,?_⟩;simp only[gX,I7,Fm.mk.injEq];exact hn
   by_cases d:k≠k'
   ·rw[bX d,bX trivial];exact no λh=>d h.1
   ·rw[bV d];obtain⟨r,w,p⟩:=wk FU s f (by rw[cP];omega) VW;rw[w];simp only[bT]
    by_cases e:r=true
    ·have hs:=p.1 e;rw[bX e]
     by_cases g:(ts.length:Int)≠us.length
     ·rw[bX g,bX trivial];exact no λh=>g (by rw[h.2.2.1])
     ·rw[bV g]
      by_cases hm:(l.length:Int)≠m.length
      ·rw[bX hm];exact no λh=>hm (by rw[h.2.2.2])
      ·rw[bV hm];obtain⟨o,z,k2⟩:=zt (E:=λx y=>iJ FU x y) (l:=ts) (m:=us) VW (λx c y=>wy FU x y (by have:=cy Tm.wt c;rw[cP];omega) (by have:=cy Tm.wt c;omega));rw[z];rcases k2 with⟨rfl,i⟩|⟨rfl,i⟩
       ·simp only[bT,ca];obtain⟨o,q1,A⟩:=zt (E:=λx y=>me n x y) (l:=l) (m:=m) VW (λx c y=>q x y (by have:=cy Fm.wt c;omega) (by have:=cy Fm.wt c;omega));rw[q1];rcases A with⟨rfl,j⟩|⟨rfl,j⟩
        ·exact⟨true,rfl,by simp only[TF,Fm.mk.injEq];exact⟨vd.1 d,hs,i,j⟩⟩
        ·exact no λh=>j h.2.2.2
       ·exact no λh=>i h.2.2.1
    ·rw[bV e,bX trivial];exact no λh=>e (p.2 h.2.1)
def GP:∀(n:Nat) (a b:Fm),a.wt<=n->a.wt<=1000000000->∃r,n8 n a b=some r/\(r=true↔a=b):=by
 intro n
 induction n with
 |zero=>intro t b h;have:=t.hD;omega
 |succ n u=>
  intro a b h v;cases a with
  |mk k s ts l=>
  cases b with
  |mk k' i us m=>
   rw[Fm.fj] at h v;have C:=Fm.m5 l;have w:=Tm.m5 ts;rw[n8];simp only[Fm.ck,Fm.cq,Fm.eY,Fm.cQ,cg,ch (l:=l) VW,b9,cf,dI]
   have no:¬(k=k'/\s=i/\ts=us/\l=m)->∃r,some false=some r/\(r=true↔Fm.mk k s ts l=Fm.mk k' i us m):=by
    intro hn;refine⟨false,rfl,?_⟩;simp only[gX,I7,Fm.mk.injEq];exact hn
   have c:∃r,px ts us=some r/\(r=true↔ts=us):=by
    unfold px;simp only[cf,dI,cg,ch (l:=ts) VW,b9]
    by_cases d:(ts.length:Int)≠us.length
    ·rw[bX d];exact⟨false,rfl,by simp only[gX,I7];rintro rfl;exact d rfl⟩
    ·rw[bV d];obtain⟨o,z,k2⟩:=zt (E:=λx y=>iY FU x y) (l:=ts) (m:=us) VW (λx e y=>zP FU x y (by have:=cy Tm.wt e;rw[cP];omega) (by have:=cy Tm.wt e;omega));rw[z];rcases k2 with⟨rfl,j⟩|⟨rfl,j⟩
     ·exact⟨true,rfl,by simpa using j⟩
     ·exact⟨false,rfl,by simpa using j⟩
   by_cases f:k≠k'
   ·rw[bX f,bX trivial];exact no λh=>f h.1
   ·rw[bV f,gn VW];simp only[bT]
    by_cases g:s.jc i=true
    ·have hs:=(Ty.ja _ _).1 g;obtain⟨r,A,q⟩:=c;rw[bX g,A];simp only[bT]
     by_cases d:r=true
     ·rw[bX d]
      by_cases hm:(l.length:Int)≠m.length
      ·rw[bX hm];exact no λh=>hm (by rw[h.2.2.2])
      ·rw[bV hm];obtain⟨o,q1,B⟩:=zt (E:=λx y=>n8 n x y) (l:=l) (m:=m) VW (λx e y=>u x y (by have:=cy Fm.wt e;omega) (by have:=cy Fm.wt e;omega));rw[q1];rcases B with⟨rfl,p⟩|⟨rfl,p⟩
       ·exact⟨true,rfl,by simp only[TF,Fm.mk.injEq];exact⟨vd.1 f,hs,q.1 d,p⟩⟩
       ·exact no λh=>p h.2.2.2
     ·rw[bV d,bX trivial];exact no λh=>d (q.2 h.2.2.1)
    ·rw[bV g,bX trivial];exact no λh=>g ((Ty.ja _ _).2 h.2.1)
def D_(l:List Ty)(t:Tm):Tm:=l.foldr (λs b=>.mk 2 0 s [b]) t
def Rk{l:List Ty}(n:l.length<=1000):∀(i m:Nat) (t:Tm),i<=l.length->i<m->nY ((QF λ(b:Int) (c:Int) (v59:Int) (d:Int) (e:List Ty) (f:List Tm)=>
   if(qJ b 0) then(
   bU (cr l b) λg=>
   some (.next ((dh .i64 b 1),2,0,g.ad',g.aea,[(Tm.mk c v59 (Ty.mk d e) f)])))
   else(some (.H9 (b,c,v59,d,e,f)))):(Int×Int×Int×Int×(List Ty)×(List Tm))->(Option (dP (Int×Int×Int×Int×(List Ty)×(List Tm)) (Tm)))) m ((i:Int)-1,t.ad',t.aec,t.b8.ad',t.b8.aea,t.aea)=some (.inl (-1,(D_ (l.take i) t).ad',(D_ (l.take i) t).aec,(D_ (l.take i) t).b8.ad',(D_ (l.take i) t).b8.aea,(D_ (l.take i) t).aea))
 |0,m+1,t,_,_=>by
  rw[l6];simp only[QF];rw[bV (by rw[fN];omega)];rfl
 |i+1,m+1,t,hi,hm=>by
  rw[l6];simp only[QF];rw[bX (by rw[fN];omega),show((i+1:Nat):Int)-1=(i:Int) by omega,gQ,mi VW];simp only[bT,cU];rw[ds VW VW]
  have p:Ty.mk (l[i]).ad' (l[i]).aea=l[i]:=by cases l[i];rfl
  have o:Tm.mk t.ad' t.aec (Ty.mk t.b8.ad' t.b8.aea) t.aea=t:=by cases t with|mk k j s a=>cases s;rfl
  have h:=Rk n i m (.mk 2 0 l[i] [t]) VW VW;rw[o];refine h.trans ?_;rw[V6,mi VW];simp only[D_,ZB,aar,List.foldr_cons,List.foldr_nil]
def so(t:Tm)(l:List Ty)(b:l.length<=1000):qP t l=some (D_ l t):=by
 unfold qP;simp only[cg];rw[dI,ds VW VW];have h:=Rk b l.length FU t (fT _) (U6 VW);rw[h,bT,List.take_length];generalize D_ l t=r;cases r with|mk k j s a=>cases s;rfl
def BD(t a:Tm):ua t [a]=some (.mk 3 0 (.mk 0 []) [t,a]):=by cases t with|mk k j s l=>cases s;rfl
def JB(t a b:Tm):ua t [a,b]=some (.mk 3 0 (.mk 0 []) [.mk 3 0 (.mk 0 []) [t,a],b]):=by cases t with|mk k j s l=>cases s;rfl
def VH:Tm:=D_ [.nat] (.mk 6 0 .nat [.mk 4 0 (.mk 0 []) [],D_ [.nat,.nat] (.mk 1 1 (.mk 0 []) []),.mk 1 0 (.mk 0 []) []])
def HF:AS=some VH:=by
 unfold AS pC kx fu vG;simp only[sd,bT,so _ _ (show[Ty.nat,Ty.nat].length<=1000 by decide),so _ _ (show[Ty.nat].length<=1000 by decide)];rfl
def aaS:Tm:=D_ [.nat,.nat] (.mk 6 0 .nat [.mk 1 1 (.mk 0 []) [],D_ [.nat,.nat] (.mk 3 0 (.mk 0 []) [VH,.mk 1 0 (.mk 0 []) []]),.mk 1 0 (.mk 0 []) []])
def Ja:CJ=some aaS:=by
 unfold CJ pC H_ fu vG;simp only[HF,sd,bT,BD,so _ _ (show[Ty.nat,Ty.nat].length<=1000 by decide)];rfl
def Vw(a b:Tm):Fm:=.mk 1 (.mk 0 []) [.mk 3 0 (.mk 0 []) [.mk 3 0 (.mk 0 []) [aaS,.mk 5 0 (.mk 0 []) [a]],b],.mk 4 0 (.mk 0 []) []] []
def G7(a b:Tm):AT a b=some (Vw a b):=by
 unfold AT kx l0;simp only[Ja,bT,JB];rfl
def SN:∀x y:Fin 8,∃z:Fin 8,r' .u8 (x:Nat) (y:Nat)=(z:Nat)/\((z:Nat)%2=1↔(x:Nat)%2=1/\(y:Nat)%2=1):=aaq
def T9:∀x y:Fin 8,∃z:Fin 8,xV .u8 (x:Nat) (y:Nat)=(z:Nat)/\((z:Nat)%2=1↔(x:Nat)%2=1\/(y:Nat)%2=1):=aaq
def Mk(b:Bool)(m:Int):Prop:=∃x:Fin 8,m=((x:Nat):Int)/\((x:Nat)%2=1↔b=true)
def Mk.and{a b:Bool}{x y:Int}(c:Mk a x)(hy:Mk b y):Mk (a&&b) (r' .u8 x y):=by
 obtain⟨x,rfl,d⟩:=c;obtain⟨y,rfl,e⟩:=hy;obtain⟨z,f,g⟩:=SN x y;exact⟨z,f,by rw[g,d,e,eg]⟩
def Mk.or{a b:Bool}{x y:Int}(c:Mk a x)(hy:Mk b y):Mk (a||b) (xV .u8 x y):=by
 obtain⟨x,rfl,d⟩:=c;obtain⟨y,rfl,e⟩:=hy;obtain⟨z,f,g⟩:=T9 x y;exact⟨z,f,by rw[g,d,e,o0]⟩
def Mk.one:Mk true 1:=⟨1,rfl,aaq⟩
def Mk.six:Mk false 6:=⟨6,rfl,aaq⟩
def Mk.four:Mk false 4:=⟨4,rfl,aaq⟩
def Mk.bit{b:Bool}{m:Int}(h:Mk b m):cF (r' .u8 m 1) 0=b:=by
 obtain⟨x,rfl,a⟩:=h
 have key:∀x:Fin 8,cF (r' .u8 ((x:Nat):Int) 1) 0=decide ((x:Nat)%2=1):=aaq
 rw[key x];cases b with
 |false=>exact Bo (λh=>by have:=a.1 h;cases this)
 |true=>exact tB (a.2 rfl)
def Fm.Wo{a:Fm}(d:a.ok=true)(c:a.ad'=2\/a.ad'=3):∃p q,a=.mk a.ad' (.mk 0 []) [] [p,q]/\p.ok=true/\q.ok=true:=by
 refine Fm.lC (p:=λa=>a.ad'=2\/a.ad'=3->∃p q,a=.mk a.ad' (.mk 0 []) [] [p,q]/\p.ok=true/\q.ok=true) ?_ ?_ ?_ a d c
 ·intro a b _ _ h;rcases h with h|h<;>cases h
 ·intro k a b _ e f _ _ _;exact⟨a,b,rfl,e,f⟩
 ·intro k s a c _ _ _ h;have h:k=2\/k=3:=h;omega
def Fm.ZK{a:Fm}(d:a.ok=true)(e:a.ad'=1):∃u v,a=.mk 1 (.mk 0 []) [u,v] []/\u.ok=true/\v.ok=true:=by
 refine Fm.lC (p:=λa=>a.ad'=1->∃u v,a=.mk 1 (.mk 0 []) [u,v] []/\u.ok=true/\v.ok=true) ?_ ?_ ?_ a d e
 ·intro a b f g _;exact⟨a,b,rfl,f,g⟩
 ·intro k a b c _ _ _ _ h;have h:k=1:=h;omega
 ·intro k s a c _ _ _ h;have h:k=1:=h;omega
def Tm.Wa{a:Tm}(e:a.ok=true)(f:a.ad'=3):∃c d,a=.mk 3 0 .z [c,d]/\c.ok=true/\d.ok=true:=by
 refine Tm.lC (p:=λa=>a.ad'=3->∃c d,a=.mk 3 0 .z [c,d]/\c.ok=true/\d.ok=true) ?_ ?_ ?_ ?_ ?_ ?_ ?_ ?_ ?_ ?_ ?_ ?_ ?_ a e f
 case refine_3=>intro a b g i _;exact⟨a,b,rfl,g,i⟩
 all_goals(intros;rename_i h;cases h)
def FQ{k:Int}{s:Ty}{a:Fm}(R:(Fm.mk k s [] [a]).ok=true)(hn:(Fm.mk k s [] [a]).aeb<=1000000)(I:a.aef 1000000000000=true)(n:a.ok=true):∃b t q ok,yk (.mk k s [] [a])=some (b,t,q,ok)/\(ok=true->q.ok=true/\q.aeb<a.aeb/\q.aef 1000000000000=true):=by
 rw[Fm.bY] at hn;simp only[cm] at hn;have no:∃b t q ok,(some (false,(Tm.mk 0 0 (Ty.mk 0 []) []),(Fm.mk 0 (Ty.mk 0 []) [] []),false):Option (Bool×Tm×Fm×Bool))=some (b,t,q,ok)/\(ok=true->q.ok=true/\q.aeb<a.aeb/\q.aef 1000000000000=true):=⟨_,_,_,_,rfl,aas⟩;unfold yk
 obtain⟨o,j,J,S⟩:∃o j,yc (cn (Fm.mk k s [] [a]).ad' 4)=some (o,j)/\(j=2\/j=3):=by
  unfold yc
  split
  ·exact⟨_,_,rfl,.inr rfl⟩
  ·exact⟨_,_,rfl,.inl rfl⟩
 rw[J,bW];simp only[cg]
 by_cases E:cF (Fm.mk k s [] [a]).ad' o=true
 ·rw[bX E,bX trivial];exact no
 rw[bV E]
 by_cases F:cF (Fm.mk k s [] [a]).b8.ad' 1=true
 ·rw[bX F,bX trivial];exact no
 rw[bV F];simp only[Fm.ck,cD,gf,bT]
 by_cases c3:cF a.ad' j=true
 ·rw[bX c3,bX trivial];exact no
 rw[bV c3]
 have w:a.ad'=2\/a.ad'=3:=by
  have:a.ad'=j:=by simpa[cF] using c3
  omega
 obtain⟨p,q,e,G,K⟩:=Fm.Wo n w;have x:a.aea=[p,q]:=(congrArg Fm.aea e).trans rfl
 have L:a.aeb=1+p.aeb+q.aeb:=by rw[e,Fm.bY];simp[cm];omega
 have l:p.aef 1000000000000=true/\q.aef 1000000000000=true:=by
  have f:=I;rw[e,Fm.dp] at f;simp only[Nz,vq,Fi,zK,eg] at f;exact f
 have M:=p.cw;rw[x];simp only[cD,dV,gf,kW,bT]
 by_cases y:cF p.ad' 1=true
 ·rw[bX y];exact no
 rw[bV y]
 have z:p.ad'=1:=by simpa[cF] using y
 obtain⟨u,v,g,hu,T⟩:=Fm.ZK G z;have A:p.cx=[u,v]:=(congrArg Fm.cx g).trans rfl
 have h:u.aef 1000000000000=true:=by
  have:=l.1;rw[g,Fm.dp] at this;simp only[vq,eg] at this;exact this.1.1
 have N:p.aeb=1+u.aeb+v.aeb:=by rw[g,Fm.bY];simp[cm];omega
 rw[A];simp only[cD,gf,bT]
 by_cases c5:cF u.ad' 3=true
 ·rw[bX c5,bX trivial];exact no
 rw[bV c5]
 have B:u.ad'=3:=by simpa[cF] using c5
 obtain⟨c,d,i,U,O⟩:=Tm.Wa hu B;have C:u.aea=[c,d]:=(congrArg Tm.aea i).trans rfl
 have P:u.aeb=1+c.aeb+d.aeb:=by rw[i,Tm.bY];simp[cm];omega
 have D:d.aef 1000000000000=true:=by
  rw[i,Tm.dp] at h;simp only[vq,eg] at h;exact h.2.2.1
 rw[C];simp only[dV,kW,gf,bT];rw[zY 0 ⟨O,D,VW⟩,bT];have yes:∃b t m ok,(some (cn (Fm.mk k s [] [a]).ad' 4,d,q,true):Option (Bool×Tm×Fm×Bool))=some (b,t,m,ok)/\(ok=true->m.ok=true/\m.aeb<a.aeb/\m.aef 1000000000000=true):=⟨_,_,_,_,rfl,λ_=>⟨K,VW,l.2⟩⟩
 by_cases H:nG (d.aeh 0:Int) 0=true
 ·rw[bX H,bX trivial];exact no
 rw[bV H];have hw:=p.er G;obtain⟨r,Q,_⟩:=zJ FU p (Vw (.mk 1 0 (.mk 0 []) []) d) (by rw[cP];omega) VW;rw[show fu 0=some (Tm.mk 1 0 (.mk 0 []) [])from rfl,bT,G7,bT,Q,bT];cases r with
 |true=>rw[show nT true=false from rfl,bV aaq];exact yes|false=>rw[show nT false=true from rfl,bX rfl];exact no
def Ln:∀(n:Nat) (f:Fm),f.aeb<=n->f.aeb<=1000000->f.ok=true->f.aef 1000000000000=true->∃m,oc n f=some m/\Mk f.has m:=by
 intro n
 induction n with
 |zero=>intro f h;have:=f.cw;omega
 |succ n w=>
  intro f hn e x c;refine Fm.lC (p:=λf=>f.aeb<=n+1->f.aeb<=1000000->f.ok=true->f.aef 1000000000000=true->∃m,oc (n+1) f=some m/\Mk f.has m) ?_ ?_ ?_ f x hn e x c
  ·intro a b _ _ _ _ _ _;rw[oc,bX abC];exact⟨6,rfl,by rw[Fm.has_eq];exact Mk.six⟩
  ·intro k a b y z B _ _ hn e _ c;rw[Fm.bY] at hn e;simp only[cm] at hn e;rw[Fm.dp] at c;simp only[Nz,vq,Fi,zK,eg] at c;obtain⟨A,C,r⟩:=w a VW VW z c.1;obtain⟨j,D,u⟩:=w b VW VW B c.2
   have d:k≠1:=VW
   have E:df (cn k 2) true (cn k 3)=true:=by rcases y with rfl|rfl<;>rfl
   rw[oc,bV (show¬cn (Fm.mk k (.mk 0 []) [] [a,b]).ad' 1=true by simpa[cn] using d)]
   have F:cr [a,b] (dh .i64 (cI [a,b]) 1)=some b:=by rw[ds aas aas];rfl
   simp only[Fm.ck,F,bT,D,cg];rw[bX (show df (cn (Fm.mk k (.mk 0 []) [] [a,b]).ad' 2) true (cn (Fm.mk k (.mk 0 []) [] [a,b]).ad' 3)=true from E)];simp only[cD,gf,bT,C,Fm.cq];refine⟨_,rfl,?_⟩;rw[Fm.Oh,bV d];have l:=(r.and u).and Mk.six;rw[Bool.and_false] at l;rcases y with rfl|rfl
   ·rw[show df (cn 2 2) (xV .u8 j A) j=xV .u8 j A from rfl];have g:=(u.or r).and Mk.one;rw[Fi] at g;have:=l.or g;rw[S7,Bool.or_comm] at this;simpa using this
   ·rw[show df (cn 3 2) (xV .u8 j A) j=j from rfl];have g:=u.and Mk.one;rw[Fi] at g;have:=l.or g;rw[S7] at this;simpa using this
  ·intro k s a y hs z _ hn e x c;have G:=e;rw[Fm.bY] at hn e;simp only[cm] at hn e;rw[Fm.dp] at c;simp only[Nz,vq,Fi,zK] at c;obtain⟨A,C,r⟩:=w a VW VW z c
   have d:k≠1:=VW
   have E:df (cn k 2) true (cn k 3)=false:=by rcases y with rfl|rfl|rfl|rfl<;>rfl
   rw[oc,bV (show¬cn (Fm.mk k s [] [a]).ad' 1=true by simpa[cn] using d)]
   have F:cr [a] (dh .i64 (cI [a]) 1)=some a:=by rw[ds aas aas];rfl
   simp only[Fm.ck,F,bT,C,cg];rw[bV (show¬df (cn (Fm.mk k s [] [a]).ad' 2) true (cn (Fm.mk k s [] [a]).ad' 3)=true by rw[show df (cn (Fm.mk k s [] [a]).ad' 2) true (cn (Fm.mk k s [] [a]).ad' 3)=false from E];decide)];obtain⟨b,t,q,ok,L,M⟩:=FQ x G c z;rw[L]
   have fin:∀(v:Int) (K:Mk (Fm.mk k s [] [a]).has v),∃m,(R2 (some (b,t,q,ok)) λN O H I=>if I then(bU (oc n H) λo=>some (xV .u8 (r' .u8 v 1) (r' .u8 o 4)))else(some (r' .u8 v 1)))=some m/\Mk (Fm.mk k s [] [a]).has m:=by
    intro v K;show∃m,(if ok then(bU (oc n q) λo=>some (xV .u8 (r' .u8 v 1) (r' .u8 o 4)))else(some (r' .u8 v 1)))=some m/\Mk (Fm.mk k s [] [a]).has m;have l:=K.and Mk.one;rw[Fi] at l;cases ok with
    |false=>exact⟨_,rfl,l⟩|true=>
     obtain⟨d1,d2,d3⟩:=M rfl;obtain⟨j,D,u⟩:=w q VW VW d1 d3;rw[bX rfl,D];refine⟨_,rfl,?_⟩;have g:=u.and Mk.four;rw[Bool.and_false] at g;have:=l.or g
     rwa [TN] at this
   have i:(Fm.mk k s [] [a]).has=if k=5 then true else a.has:=by
    rw[Fm.Og,bV d]
   by_cases J:k=5
   ·subst J;rw[bX abC];refine fin _ ?_;rw[i,bX rfl];have:=r.or Mk.one
    rwa [Bool.or_true] at this
   ·rw[bV (show¬cn (Fm.mk k s [] [a]).ad' 5=true by simpa[cn] using J)];refine fin _ ?_;rw[i,bV J];exact r
def Cl{f:Fm}(hw:f.wt<=1000000000)(b:f.aef 1000000000000=true):rN f=some (if f.err≠0 then(false,f.err)else(f.has,0)):=by
 unfold rN IJ;rw[fh hw,bT]
 by_cases he:f.err=0
 ·obtain⟨a,hn⟩:=Fm.d_ he;obtain⟨m,c,d⟩:=Ln FU f (by have:=cP;omega) VW a b;rw[bV (by rw[cf];simpa using he),c,bT,d.bit,bW,bV (by simpa using he)]
 ·rw[bX (by rw[cf];exact he),bW,bX he]
def lh{α:Type}(m:List (Int×α)):List Int:=m.map (·.1)
def Bt{α:Type}(k:Int)(v:α):∀(m:List (Int×α)) (x:Int),x∈lh (tL m k v)↔x=k\/x∈lh m
 |[],x=>by simp[tL,lh]|p::m,x=>by
  unfold tL
  by_cases h:p.1=k
  ·rw[bX h];subst h;simp[lh]
  ·rw[bV h];have a:=Bt k v m x;simp only[lh,k_,jW] at a|-;rw[a];constructor
   ·rintro(h|h|h)
    ·exact .inr (.inl h)
    ·exact .inl h
    ·exact .inr (.inr h)
   ·rintro(h|h|h)
    ·exact .inr (.inl h)
    ·exact .inl h
    ·exact .inr (.inr h)
def AB{α:Type}(k:Int)(v:α):∀(m:List (Int×α)),(lh m).Nodup->(lh (tL m k v)).Nodup
 |[],_=>by simp[tL,lh]|p::m,h=>by
  have b:p.1∉lh m/\(lh m).Nodup:=Rx.1 h;unfold tL
  by_cases a:p.1=k
  ·rw[bX a];subst a;exact h
  ·rw[bV a];refine Rx.2 ⟨λhm=>?_,AB k v m b.2⟩;rcases(Bt k v m p.1).1 hm with e|e
   ·exact a e
   ·exact b.1 e
def Gc{α:Type}(k:Int)(v:α):∀(m:List (Int×α)),(tL m k v).length<=m.length+1
 |[]=>by simp[tL]|p::m=>by
  unfold tL
  split
  ·simp
  ·have:=Gc k v m;simp only[j0];omega
def Lt(n:Int):∀l:List Int,(AN n l).length=l.length+1
 |[]=>rfl|a::l=>by
  unfold AN
  split
  ·rfl
  ·simp[Lt n l]
def Ij:∀(l acc:List Int),(xJ acc l).length=acc.length+l.length
 |[],acc=>by simp[xJ]|a::l,acc=>by rw[xJ,Ij l,Lt];simp only[j0];omega
def Ho:∀(n:Nat) (t:Tm) (d:Int) (m:List (Int×Bool)),t.aeb<=n->t.aeb<=100000000->0<=d->d+t.aeb<=1000000000->t.aef 4611686018427387904=true->(lh m).Nodup->∃q,n9 n t d m=some q/\(lh q).Nodup/\q.length<=m.length+t.aeb/\∀x,x∈lh q↔x∈lh m\/(0<=x/\0<t.aeh (x+d)):=by
 intro n
 induction n with
 |zero=>intro t d m h;have:=t.cw;omega
 |succ n J=>
  intro t d m hn w K L C hm;cases t with
  |mk k i s l=>
   have D:=gE k;rw[Tm.bY] at hn w L;have hlen:=eV Tm.aeb l λt _=>t.cw;rw[Tm.dp,eg,m0,im] at C
   have aea:∀(F:Int->Tm->List (Int×Bool)->Option (dP (List (Int×Bool)) (List (Int×Bool)))),(∀j x v,F j x v=bU (jO (Tm.mk k i s l)) λb=>bU (n9 n x (c8 .i64 d b) v) λr=>some (.next r))->∀(as:List Tm) (j:Nat) (v:List (Int×Bool)),(∀a∈as,a∈l)->(lh v).Nodup->∃e,cY F as j v=some (.inl e)/\(lh e).Nodup/\e.length<=v.length+cm Tm.aeb as/\∀x,x∈lh e↔x∈lh v\/(0<=x/\0<cm (Tm.aeh (x+d+dB k)) as):=by
    intro F hF as
    induction as with
    |nil=>intro j v _ y;exact⟨v,rfl,y,by simp[cm],λx=>by simp[cm]⟩|cons a as z=>
     intro j v has y;have E:=has a aas;have M:=cy Tm.aeb E;have A:=C.2 a E;obtain⟨v1,f,g,G,o⟩:=J a (d+dB k) v VW VW VW VW A y;obtain⟨v2,g1,g2,g3,g4⟩:=z (j+1) v1 (λb w=>has b (by simp[w])) g;refine⟨v2,?_,g2,by simp only[cm];omega,λx=>?_⟩
     ·rw[cO,hF,mo];simp only[bT,Tm.cq];rw[cX VW VW,f];simp only[bT,cU];exact g1
     ·rw[g4,o];simp only[cm];rw[<-Int.add_assoc];constructor
      ·rintro((h|h)|h)
       ·exact .inl h
       ·exact .inr ⟨h.1,VW⟩
       ·exact .inr ⟨h.1,VW⟩
      ·rintro(h|⟨h,u⟩)
       ·exact .inl (.inl h)
       ·by_cases N:0<a.aeh (x+d+dB k)
        ·exact .inl (.inr ⟨h,N⟩)
        ·exact .inr ⟨h,VW⟩
   unfold n9;simp only[cg,Tm.ck,ch (l:=l) VW,b9,Tm.cq,Tm.dQ];rw[Tm.bY]
   by_cases p:k=1/\d<=i
   ·have c:df (cn k 1) (qJ i d) false=true:=by simp[df,p.1,p.2]
    simp only[c,if_true];rw[ds VW VW];obtain⟨e,f,g,G,o⟩:=aea _ (λ_ _ _=>rfl) l 0 (tL m (i-d) true) (λa h=>h) (AB _ _ _ hm);refine⟨e,by rw[f];rfl,g,by have:=Gc (i-d) true m;omega,λx=>?_⟩;rw[o,Bt,Tm.eC];constructor
    ·rintro((h|h)|h)
     ·exact .inr ⟨VW,by rw[bX ⟨p.1,VW⟩];omega⟩
     ·exact .inl h
     ·exact .inr ⟨h.1,VW⟩
    ·rintro(h|⟨h,u⟩)
     ·exact .inl (.inr h)
     ·by_cases H:x=i-d
      ·exact .inl (.inl H)
      ·rw[bV (λI=>H VW)] at u;exact .inr ⟨h,VW⟩
   ·have c:df (cn k 1) (qJ i d) false=false:=by
     unfold df
     split
     ·rename_i O
      have B:k=1:=by simpa using O
      simp only[qJ,M6]
      exactλh=>p ⟨B,h⟩
     ·rfl
    simp only[c,gX,fL];obtain⟨e,f,g,G,o⟩:=aea _ (λ_ _ _=>rfl) l 0 m (λa h=>h) hm;refine⟨e,by rw[f];rfl,g,VW,λx=>?_⟩;rw[o,Tm.eC];constructor
    ·rintro(h|h)
     ·exact .inl h
     ·exact .inr ⟨h.1,VW⟩
    ·rintro(h|⟨h,u⟩)
     ·exact .inl h
     ·rw[bV (λI=>p ⟨I.1,VW⟩)] at u;exact .inr ⟨h,VW⟩
def GV{t:Tm}(hw:t.wt<=1000000000)(d:t.aef 4611686018427387904=true)(he:t.err=0):∃l,tj t=some (l,0)/\EK l/\l.length<=4096/\∀x,x∈l↔0<=x/\0<t.aeh x:=by
 have hn:t.aeb<=4096:=by
  unfold Tm.err at he
  split at he
  ·split at he
   ·cases he
   ·omega
  ·cases he
 obtain⟨m,e,c,f,g⟩:=Ho FU t 0 [] (by rw[cP];omega) VW VW VW d (by simp[lh])
 have a:(m.map (·.1)).Nodup:=c
 have b:m.length<=4096:=by simpa using Ei f (by simpa using hn)
 refine⟨xJ [] (lh m),?_,zl _ [] .nil c aas,?_,λx=>?_⟩
 ·unfold tj;rw[mc hw,he];simp only[bT];rw[bV aaq,e];simp only[bT];unfold oN
  rw[ch VW,b9,show vI (m.map (·.1))=true from by simp[vI,a],b9]
  rfl
 ·rw[Ij];simp[lh,b]
 ·rw[y7,g];simp[lh]
def EB{n:Int}(a:0<=n)(b:n<4294967296):IntKind.u32.wrap n=n:=by
 unfold IntKind.wrap;simp only[show IntKind.u32.bits=32 from rfl,show IntKind.u32.signed=false from rfl,X0,gX,fL,show((2:Int)^32)=4294967296 from rfl];omega
def IT(a:Nat):BitVec.ofInt 32 (a:Int)=BitVec.ofNat 32 a:=aas
def IU{a b:Nat}(d:a<4294967296)(e:b<4294967296):xV .u32 (a:Int) (b:Int)=((a|||b:Nat):Int):=by
 unfold xV;have c:a|||b<2^32:=Yn VW VW;rw[show IntKind.u32.bits=32 from rfl,IT,IT,BitVec.toNat_or,UC,UC,Rb VW,Rb VW];exact EB VW VW
def LP{a b:Nat}(d:a<4294967296)(e:b<4294967296):r' .u32 (a:Int) (b:Int)=((a&&&b:Nat):Int):=by
 unfold r';have c:a&&&b<2^32:=Nat.and_lt_two_pow _ VW;rw[show IntKind.u32.bits=32 from rfl,IT,IT,BitVec.toNat_and,UC,UC,Rb VW,Rb VW];exact EB VW VW
def QY{k:Nat}(b:k<32):Xm .u32 1 (k:Int)=((2^k:Nat):Int):=by
 unfold Xm;rw[show IntKind.u32.bits=32 from rfl,AM,RW VW,Int.one_mul];have a:2^k<2^32:=TM aaq b;rw[show((2:Int)^k)=((2^k:Nat):Int) by push_cast;rfl];exact EB (aac _) (Int.ofNat_lt.2 (abr a rfl))
def SK{a k:Nat}(b:k<=32):X' .u32 (a:Int) (k:Int)=((a/2^k:Nat):Int):=by
 unfold X';rw[show IntKind.u32.bits=32 from rfl,AM,RW b];rw[show((2:Int)^k)=((2^k:Nat):Int) by push_cast;rfl];rw[Int.fdiv_eq_ediv_of_nonneg _ (aac _)];rfl
structure Us (l:List Int) (m:Nat):Prop where
 lt:m<4294967296
 pos:∀x∈l,0<=x
 srt:EK l
 mem:∀i:Nat,(i:Int)∈l↔m.testBit i=true
def Us.nil:Us [] 0:=⟨aaq,aas,by first|exact .nil|trivial|simp[EK],aas⟩
def Cz{i b:Int}{m:Nat}(hm:m<4294967296)(g:0<=i)(l:i<=1000000000000)(o:0<=b)(p:b<=1000000000)(q:i-b<32):∃c:Nat,pz i b (m:Int)=some (c:Int)/\c<4294967296/\∀j:Nat,c.testBit j=true↔m.testBit j=true\/i=j+b:=by
 unfold pz
 by_cases h:b<=i
 ·rw[bX (by rw[fN];exact h),ds VW VW,show Pg (i-b)=true by simp[Pg];omega,b9];obtain⟨k,f⟩:∃k:Nat,i-b=(k:Int):=⟨(i-b).toNat,VW⟩
  have a:k<32:=VW
  have d:2^k<4294967296:=abr (TM aaq a) rfl;rw[f,QY a,IU hm d];refine⟨m|||2^k,rfl,Yn (n:=32) VW VW,λj=>?_⟩;rw[We,o0,Uz,M9];constructor
  ·rintro(h|h)
   ·exact .inl h
   ·exact .inr VW
  ·rintro(h|h)
   ·exact .inl h
   ·exact .inr VW
 ·rw[bV (by rw[fN];exact h)];exact⟨m,rfl,hm,λj=>⟨.inl,λe=>e.elim id λe=>absurd e VW⟩⟩
def Fx:∀(n:Nat) (t:Tm) (b:Int) (m:Nat),t.aeb<=n->t.aeb<=1000000->t.ok=true->t.aef 1000000000000=true->0<=b->b+t.aeb<=1000000000->m<4294967296->(∀j:Int,32<=j->t.aeh (j+b)=0)->∃g:Nat,fU n t b (λ(s:Int) (o:Int) (p:Int)=>pz o p s) (m:Int)=some (g:Int)/\g<4294967296/\∀j:Nat,g.testBit j=true↔m.testBit j=true\/0<t.aeh (j+b):=by
 intro n
 induction n with
 |zero=>intro t b m h;have:=t.cw;omega
 |succ n L=>
  intro t b m hn M N r O w hm c;cases t with
  |mk k i s l=>
   rw[Tm.bY] at hn M w;have hlen:=Tm.dm l;have hi:=Tm.jz N;rw[Tm.dp,eg,M9,im] at r;have P:=gE k;rw[fU];simp only[cg]
   have x:∀j:Int,32<=j->∀t∈l,t.aeh (j+(b+dB k))=0:=by
    intro j y t Q;have z:=c j y;rw[Tm.eC] at z;have V:=cy (Tm.aeh (j+b+dB k)) Q;rw[show j+(b+dB k)=j+b+dB k by omega];omega
   have loop:∀(ts:List Tm) (j:Nat) (v:Nat),(∀t∈ts,t∈l)->v<4294967296->∃A:Nat,cY (λ(R:Int) (B:Tm)=>(λ(v28:Int)=>
      bU (fU n B (b+dB k) (λ(s:Int) (o:Int) (p:Int)=>pz o p s) v28) λC=>
      some ((.next C):dP Int Int))) ts j (v:Int)=some (.inl (A:Int))/\A<4294967296/\∀q:Nat,A.testBit q=true↔v.testBit q=true\/0<cm (Tm.aeh (q+b+dB k)) ts:=by
    intro ts
    induction ts with
    |nil=>intro j v _ D;exact⟨v,aas,D,λq=>by simp[cm]⟩|cons t ts E=>
     intro j v d D;have a:=d t aas;have S:=cy Tm.aeb a;obtain⟨v1,F,G,H⟩:=L t (b+dB k) v VW VW (hi.2.2.2.1 t a) (r.2 t a) VW VW D (λj y=>x j y t a);obtain⟨v2,f1,f2,f3⟩:=E (j+1) v1 (λu hu=>d u (by simp[hu])) G;refine⟨v2,?_,f2,λq=>?_⟩
     ·rw[cO,F];simp only[bT,cU];exact f1
     ·rw[f3,H];simp only[cm];rw[show(q:Int)+(b+dB k)=q+b+dB k by omega];constructor
      ·rintro((h|h)|h)
       ·exact .inl h
       ·exact .inr VW
       ·exact .inr VW
      ·rintro(h|h)
       ·exact .inl (.inl h)
       ·by_cases T:0<t.aeh (q+b+dB k)
        ·exact .inl (.inr T)
        ·exact .inr VW
   by_cases I:k=1
   ·subst I;rw[bX (show cn (Tm.mk 1 i s l).ad' 1=true from rfl)];simp only[Tm.ck,Tm.cq,Tm.dQ]
    have J:i-b<32:=by
     rcases Int.lt_or_le (i-b) 32 with h|h
     ·exact h
     ·have z:=c (i-b) h;rw[Tm.eC,bX ⟨rfl,VW⟩] at z;omega
    obtain⟨U,F,G,H⟩:=Cz hm hi.2.1 r.1 O VW J;rw[F,bT,vQ 1 b VW VW,ch VW,b9];obtain⟨K,f1,f2,f3⟩:=loop l 0 U (λt h=>h) G;refine⟨K,?_,f2,λq=>?_⟩
    ·have e:=f1;rw[show((0:Nat))=0 from rfl] at e;rw[e,bT];rfl
    ·rw[f3,H,Tm.eC]
     by_cases f:i=q+b
     ·rw[bX ⟨rfl,f⟩];exact⟨λ_=>.inr VW,λ_=>.inl (.inr f)⟩
     ·rw[bV (λh=>f h.2),tu];exact⟨λh=>h.elim (λh=>h.elim .inl λh=>absurd h f) .inr,λh=>h.elim (λh=>.inl (.inl h)) .inr⟩
   ·rw[bV (show¬cn (Tm.mk k i s l).ad' 1=true by simpa[cn] using I)];simp only[Tm.ck,Tm.cq,Tm.dQ];rw[vQ k b VW VW,ch VW,b9];obtain⟨K,f1,f2,f3⟩:=loop l 0 m (λt h=>h) hm;refine⟨K,by rw[f1,bT];rfl,f2,λq=>?_⟩;rw[f3,Tm.eC,bV (λh=>I h.1),tu]
def Ue{t:Tm}(he:t.err=0)(b:t.aef 1000000000000=true)(c:∀j:Int,32<=j->t.aeh j=0):∃(l:List Int) (m:Nat),jS t=some (m:Int)/\iQ t=some l/\Us l m/\∀x,x∈l↔0<=x/\0<t.aeh x:=by
 obtain⟨a,hn⟩:=Tm.d_ he;have hw:=t.er a;obtain⟨m,d,e,f⟩:=Fx FU t 0 0 (by have:=cP;omega) VW a b VW VW aaq (λj g=>by rw[wo];exact c j g);obtain⟨l,g1,g2,_,g4⟩:=GV (t:=t) VW (Tm.gT t VW b) he;refine⟨l,m,?_,by unfold iQ;rw[g1];rfl,⟨e,λx h=>((g4 x).1 h).1,g2,λi=>?_⟩,g4⟩
 ·unfold jS oI;rw[show(0:Int)=((0:Nat):Int)from rfl] at*;rw[d];rfl
 ·rw[g4,f,wo];simp
def rp(v:List (Int×Bool))(l:List Int):List (Int×Bool):=l.foldl (λv x=>tL v x true) v
def xk:∀(l:List Int) (v:List (Int×Bool)),(lh v).Nodup->(lh (rp v l)).Nodup/\(rp v l).length<=v.length+l.length/\∀x,x∈lh (rp v l)↔x∈lh v\/x∈l
 |[],v,h=>⟨h,by simp[rp],λx=>by simp[rp]⟩|y::l,v,h=>by
  obtain⟨a,c,b⟩:=xk l (tL v y true) (AB y true v h);refine⟨a,?_,λx=>?_⟩
  ·have:=Gc y true v;show(rp (tL v y true) l).length<=_;rw[j0];omega
  ·show x∈lh (rp (tL v y true) l)↔_;rw[b,Bt,jW];constructor
   ·rintro((h|h)|h)
    ·exact .inr (.inl h)
    ·exact .inl h
    ·exact .inr (.inr h)
   ·rintro(h|h|h)
    ·exact .inl (.inr h)
    ·exact .inl (.inl h)
    ·exact .inr h
def E7{ρ:Type}:∀(l:List Int) (j:Nat) (v:List (Int×Bool)),cY (λ(c:Int) (a:Int)=>(λ(b:(List (Int×Bool)))=>some ((.next (tL b a true)):dP (List (Int×Bool)) ρ))) l j v=some (.inl (rp v l))
 |[],j,v=>by rw[lx];rfl|x::l,j,v=>by
  rw[cO];simp only[bT,cU];exact E7 l (j+1) (tL v x true)
def EV{a b:List Int}(f:a.length<=1000000)(g:b.length<=1000000):∃l,en a b=some l/\EK l/\∀x,x∈l↔x∈a\/x∈b:=by
 obtain⟨c,d,e⟩:=xk a [] (by simp[lh]);obtain⟨g1,g2,g3⟩:=xk b (rp [] a) c;refine⟨xJ [] (lh (rp (rp [] a) b)),?_,zl _ _ .nil g1 aas,λx=>?_⟩
 ·unfold en;simp only[cg];rw[ch VW,b9];rw[E7 a 0 [],bT,ca,ch VW,b9,E7 b 0 _,bT,ca];unfold oN;simp only[tP] at d;rw[ch VW,b9,show vI (List.map (λx=>x.1) (rp (rp [] a) b))=true from tB g1,b9];rfl
 ·rw[y7,g3,e];simp[lh]
def Us.union{a b:List Int}{m n:Nat}(c:Us a m)(d:Us b n)(e:a.length<=1000000)(f:b.length<=1000000):∃l,en a b=some l/\xV .u32 (m:Int) (n:Int)=((m|||n:Nat):Int)/\Us l (m|||n)/\∀x,x∈l↔x∈a\/x∈b:=by
 obtain⟨l,j,k,g⟩:=EV e f;refine⟨l,j,IU c.lt d.lt,⟨Yn (n:=32) (by have:=c.lt;omega) (by have:=d.lt;omega),λx o=>?_,k,λi=>?_⟩,g⟩
 ·rcases(g x).1 o with h|h
  ·exact c.pos x h
  ·exact d.pos x h
 ·rw[g,c.mem,d.mem,We,o0]
def Us.bound{l:List Int}{m:Nat}(h:Us l m):∀x∈l,x<32:=by
 intro x a;have b:=h.pos x a;obtain⟨k,rfl⟩:=WN b;have:=(h.mem k).1 a;rcases sA k 32 with h1|h1
 ·omega
 ·exfalso;have c:m<2^k:=O6 h.lt (Ei (by decide:4294967296<=2^32) (Nat.pow_le_pow_right aaq h1));rw[Nat.testBit_lt_two_pow c] at this;cases this
def vS(k:Int)(l:List Int):List Int:=(l.filter λx=>decide (k<=x)).map λx=>x-k
def E4{k:Int}(e:0<=k)(c:k<=1000):∀(l:List Int) (j:Nat) (v:List Int),(∀x∈l,0<=x/\x<32)->v.length+l.length<=1000000->cY (λ(f:Int) (a:Int)=>(λ(b:List Int)=>
   if(qJ a k) then(
   eB (dZ b [(dh .i64 a k)])<|some ((.next (eA b [(dh .i64 a k)])):dP (List Int) (List Int)))
   else(some (.next b)))) l j v=some (.inl (v++vS k l))
 |[],j,v,_,_=>by simp[vS]|x::l,j,v,h,g=>by
  simp only[j0] at g;have i:=h x aas;rw[cO]
  by_cases d:k<=x
  ·rw[bX (by rw[fN];exact d),de aaQ,b9,ds VW VW];simp only[bT,cU];rw[eP,E4 e c l (j+1) _ (λy hy=>h y (by simp[hy])) aaQ];simp[vS,d]
  ·rw[bV (by rw[fN];exact d)];simp only[bT,cU];rw[E4 e c l (j+1) v (λy hy=>h y (by simp[hy])) VW];simp[vS,d]
def C_{l:List Int}{m:Nat}(h:Us l m)(d:l.length<=1000000){k:Int}(c:0<=k)(a:k<=1000):et l k=some (vS k l):=by
 unfold et;simp only[cg];rw[ch VW,b9,E4 c a l 0 [] (λx b=>⟨h.pos x b,h.bound x b⟩) aaQ,bT,ca,m6]
def F9(k:Int)(l:List Int)(x:Int):x∈vS k l↔x+k∈l/\0<=x:=by
 unfold vS;simp only[ll,Tr,M9];constructor
 ·rintro⟨y,⟨a,b⟩,rfl⟩;exact⟨by rw[Int.sub_add_cancel];exact a,VW⟩
 ·rintro⟨a,b⟩;exact⟨x+k,⟨a,VW⟩,VW⟩
def LX(k:Int):∀{l:List Int},EK l->EK (vS k l)
 |[],_=>.nil|a::l,.cons f g=>by
  have c:=LX k g
  by_cases d:k<=a
  ·have e:vS k (a::l)=(a-k)::vS k l:=by simp[vS,d]
   rw[e];refine .cons (λb h=>?_) c;have:=f _ ((F9 k l b).1 h).1;omega
  ·have e:vS k (a::l)=vS k l:=by simp[vS,d]
   rw[e];exact c
def Us.out{l:List Int}{m:Nat}(h:Us l m)(a:l.length<=1000000){k:Nat}(b:k<=32):et l (k:Int)=some (vS k l)/\dz (m:Int) (k:Int)=some ((m/2^k:Nat):Int)/\Us (vS k l) (m/2^k):=by
 refine⟨C_ h a VW VW,?_,⟨aaB (Nat.div_le_self _ _) h.lt,λx c=>((F9 _ _ _).1 c).2,LX _ h.srt,λi=>?_⟩⟩
 ·unfold dz;rw[show Pg (k:Int)=true by simp[Pg],b9,SK b]
 ·rw[F9,show(i:Int)+(k:Int)=((i+k:Nat):Int) by omega,h.mem]
  have e:(m/2^k).testBit i=m.testBit (i+k):=by rw[Nat.testBit_div_two_pow]
  rw[e];exact⟨λh=>h.1,λh=>⟨h,VW⟩⟩
theorem Tm.up_add(f b c:Int)(j:0<=b):∀(t:Tm) (d:Int),(t.up (f+d) b).up (f+d) c=t.up (f+d) (b+c):=by
 intro t
 induction t using Tm.ind with
 |h k i s l e=>
  intro d;rw[Tm.fD,Tm.fD,Tm.fD]
  congr 1
  ·by_cases a:k=1/\f+d<=i
   ·rw[bX a,bX ⟨a.1,VW⟩];omega
   ·rw[bV a,bV a,bV a]
  ·rw[D4]
   exact qf λx g=>by
    have:=e x g (d+dB k);rw[show f+(d+dB k)=f+d+dB k by omega] at this;exact this
theorem Fm.up_add(f b c:Int)(a:0<=b):∀(t:Fm) (d:Int),(t.up (f+d) b).up (f+d) c=t.up (f+d) (b+c):=by
 intro t
 induction t using Fm.ind with
 |h k s ts l e=>
  intro d;rw[Fm.fD,Fm.fD,Fm.fD]
  congr 1
  ·rw[D4];exact qf λx _=>Tm.up_add f b c a x d
  ·rw[D4]
   exact qf λx g=>by
    have:=e x g (d+qB k);rw[show f+(d+qB k)=f+d+qB k by omega] at this;exact this
def Fm.JG(t:Fm){b c:Int}(a:0<=b):(t.up 0 b).up 0 c=t.up 0 (b+c):=by
 have:=Fm.up_add 0 b c a t 0
 rwa [wo] at this
def Fm.KJ(t:Fm):∀f,t.up f 0=t:=by
 induction t using Fm.ind with
 |h k s ts l a=>
  intro f;rw[Fm.fD]
  congr 1
  ·rw[qf (g:=id) λx _=>Tm.pD x _];simp
  ·rw[qf (g:=id) λx b=>a x b _];simp
def Fm.pD(t:Fm):t.up 0 0=t:=Fm.KJ t 0
structure Hy (f:Fm):Prop where
 err:f.err=0
 aef:f.aef 536870912=true
structure T7 (p:cp) (c:bZ):Prop where
 aed:p.aed=c.aed.map ra
 vars:p.eT.vars=(c.aed.length:Int)
 aeg:p.eT.aeg=(c.aeg.length:Int)
 ctx:gd c.aed
 nv:c.aed.length<=16
 nh:c.aeg.length<=16
 known:p.known.length=c.aeg.length
 hyp:∀(i:Nat) (x:c0) (h:Fm),p.known[i]?=some x->c.aeg[i]?=some h->Hy x.cd/\0<=x.vars/\x.vars<=c.aed.length/\h=x.cd.up 0 (c.aed.length-x.vars)
def T7.with{p:cp}{c:bZ}(h:T7 p c){f:Fm}(m:Hy f)(hn:c.aeg.length+1<=16):∃j d,ef p f=some j/\ee c f=some d/\T7 j d/\d.lemmas=c.lemmas/\d.aed=c.aed/\d.aeg=c.aeg++[f]:=by
 unfold ef ee;have k:=h.known;rw[de aaQ,b9,de aaQ,b9];refine⟨_,_,rfl,rfl,⟨h.aed,h.vars,?_,h.ctx,h.nv,?_,?_,?_⟩,rfl,rfl,by simp only[eP]⟩
 ·show c8 .i64 p.eT.aeg 1=_;rw[h.aeg,cX (by have:=h.nh;omega) (by have:=h.nh;omega),eP];simp
 ·show(eA c.aeg [f]).length<=16;rw[eP];simpa using hn
 ·show(eA p.known _).length=(eA c.aeg [f]).length;simp[eP,k]
 ·intro i x g b a
  have b:(p.known++[c0.mk f p.eT.vars])[i]?=some x:=by rw[<-eP];exact b
  have a:(c.aeg++[f])[i]?=some g:=by rw[<-eP];exact a
  rcases sA i c.aeg.length with e|hge
  ·rw[oy VW] at b;rw[oy e] at a;exact h.hyp i x g b a
  ·have hi:i=c.aeg.length:=by
    have:=(jj.1 a).1;simp at this;omega
   subst hi;rw[qU VW,k,QU] at b;rw[qU VW,QU] at a;have n:c0.mk f p.eT.vars=x:=fS b;have o:f=g:=fS a;subst n;subst o;have l:=h.vars;refine⟨m,by show 0<=p.eT.vars;omega,by show p.eT.vars<=_;exact Int.le_of_eq l,?_⟩;show f=f.up 0 (c.aed.length-p.eT.vars);rw[l,Int.sub_self];exact(Fm.pD f).symm
def gd.append{g l:List Ty}(h:gd g)(a:gd l):gd (g++l):=λs hs=>(qO.1 hs).elim (h s) (a s)
def CC{g l:List Ty}(a:gd l)(b:g.length+l.length<=900000):eW (g.map ra) l=some ((g++l).map ra):=by
 unfold eW;rw[ue a VW,bT,de aaQ,b9,eP,TC]
def T7.below{p:cp}{c:bZ}(h:T7 p c){l:List Ty}(k:gd l)(hn:c.aed.length+l.length<=16)(n:∀f∈c.aeg,f.err=0/\f.aef 1000000000=true):∃m b,dT p l=some m/\dk c l=some b/\T7 m b/\b.lemmas=c.lemmas/\b.aed=c.aed++l/\b.aeg=c.aeg.map (Fm.up 0 l.length):=by
 have o:=h.nh
 have q:dT p l=some (cp.mk (fR.mk (p.eT.vars+l.length) p.eT.aeg) ((c.aed++l).map ra) p.known):=by
  unfold dT;rw[h.aed,CC k VW,bT];have:=h.vars;rw[dI,cX VW VW]
 have r:dk c l=some (bZ.mk c.lemmas (c.aed++l) (c.aeg.map (Fm.up 0 l.length))):=by
  unfold dk;simp only[cg]
  rw[de VW,b9,ch VW,b9,gZ (Fm.up 0 l.length) c.aeg 0 [] aaQ (λj x v s t=>by
   obtain⟨q1,u⟩:=n x s;obtain⟨w,y⟩:=Fm.d_ q1
   rw[dI,yv FU x 0 l.length (by rw[cP];omega) VW VW VW VW VW (Fm.gT x VW u),bT,de (by simpa using t),b9,eP])]
  rw[bT,ca,eP,m6]
 refine⟨_,_,q,r,⟨rfl,?_,?_,h.ctx.append k,?_,?_,?_,?_⟩,rfl,rfl,rfl⟩
 ·show p.eT.vars+l.length=((c.aed++l).length:Int);rw[h.vars];simp
 ·show p.eT.aeg=((c.aeg.map (Fm.up 0 l.length)).length:Int);rw[h.aeg];simp
 ·show(c.aed++l).length<=16;simpa using hn
 ·show(c.aeg.map (Fm.up 0 l.length)).length<=16;simpa using h.nh
 ·show p.known.length=(c.aeg.map (Fm.up 0 l.length)).length;simpa using h.known
 ·intro i x g d a;have d:p.known[i]?=some x:=d;have a:(c.aeg.map (Fm.up 0 l.length))[i]?=some g:=a;rw[sw] at a;cases e:c.aeg[i]?with
  |none=>rw[e] at a;cases a
  |some g0=>
   rw[e] at a;have a:g0.up 0 l.length=g:=fS a;obtain⟨a1,a2,a3,a4⟩:=h.hyp i x g0 d e;refine⟨a1,a2,?_,?_⟩
   ·show x.vars<=((c.aed++l).length:Int);simp;omega
   ·show g=x.cd.up 0 (((c.aed++l).length:Int)-x.vars);rw[<-a,a4,Fm.JG _ VW]
    congr 1
    simp;omega
def T7.NP{p:cp}{c:bZ}(h:T7 p c){i:Int}(hi:0<=i):if(c.aeg.length:Int)<=i then mj p i=some (.mk 0 (.mk 0 []) [] [],false)else∃f,cr c.aeg (dh .i64 (dh .i64 (cI c.aeg) 1) i)=some f/\mj p i=some (f,true):=by
 have g:=h.nh;have j:=h.known;unfold mj;rw[dI,j]
 split
 ·rename_i d;rw[bX (by rw[fN];exact d)]
 ·rename_i d;rw[bV (by rw[fN];exact d),dI,ds (a:=(c.aeg.length:Int)) VW VW,ds VW VW]
  have b:(((c.aeg.length:Int)-1-i).toNat)<c.aeg.length:=VW
  have e:(c.aeg.length:Int)-1-i=((((c.aeg.length:Int)-1-i).toNat:Nat):Int):=VW
  rw[e,gQ,gQ,mi b,mi VW];obtain⟨a1,a2,a3,a4⟩:=h.hyp _ _ _ (mi VW) (mi b);refine⟨_,rfl,?_⟩;obtain⟨k,m⟩:=Fm.d_ a1.err;have l:=h.nv;rw[bT,h.vars,ds VW VW,kn k VW (Fm.gT _ VW a1.aef) VW VW VW VW,bT,<-a4]
def Ua{t:Tm}(m:t.ok=true):tZ t=some t.root:=by
 unfold tZ;simp only[cg];cases t with
 |mk k i s l=>
  show(if(cn k 3) then(bU (cr l 0) λg=>some (cn g.ad' 2))else(
   if(cn k 6) then(bU (cr l 2) λe=>if(cn e.ad' 4) then some true else some (cn e.ad' 5))else(
   if(cn k 9) then(bU (cr l 2) λf=>if(cn f.ad' 7) then some true else some (cn f.ad' 8))else(
   if(df (cn k 11) true (cn k 12)) then(bU (cr l 0) λh=>some (cn h.ad' 10))else some false))))=_
  unfold Tm.root
  by_cases n:k=3
  ·subst n;obtain⟨a,b,rfl⟩:=Tm.ok3 m;rw[bX aaq];simp[cD,Tm.kd,sK]
  ·rw[bV (by simpa using n)]
   by_cases o:k=6
   ·subst o;obtain⟨a,b,c,rfl⟩:=Tm.ok6 m;rw[bX aaq];simp only[gP,kW,gf,bT,Tm.kd,eu]
    by_cases j:c.ad'=4
    ·simp[j]
    ·simp[j,sK]<;>exact M'.2 Iff.rfl
   ·rw[bV (by simpa using o)]
    by_cases p:k=9
    ·subst p;obtain⟨a,b,c,rfl⟩:=Tm.ok9 m;rw[bX aaq];simp only[gP,kW,gf,bT,Tm.kd,eu]
     by_cases j:c.ad'=7
     ·simp[j]
     ·simp[j,sK]<;>exact M'.2 Iff.rfl
    ·rw[bV (by simpa using p)]
     by_cases d:k=11\/k=12
     ·obtain⟨a,rfl⟩:=Tm.W1 d m;rw[bX (by rcases d with rfl|rfl<;>rfl)];simp only[cD,gf,bT,Tm.kd];rcases d with rfl|rfl<;>simp[sK]<;>exact M'.2 Iff.rfl
     ·rw[bV (by simp only[jB,o0,eu];exact d)];simp only[not_or] at d;simp[n,o,p,d.1,d.2]
def xU{t:Tm}(h:t.aeb<=1000000000):dM FU t=some (t.aeb:Int):=mf FU t (by rw[cP];exact h) h
def Qd{t:Tm}(o:t.ok=true)(hn:t.aeb<=8192)(f:t.root=true):qv t=some ((t.dg.aeb:Int)-(t.aeb:Int)):=by
 have j:=Tm.Fk o f;have p:=hn;unfold qv;rw[xU VW];simp only[bT];cases j with
 |app=>
  rename_i i s c d b a;have l:=Tm.cK (Tm.cK o (.mk 2 c d [b]) aas) b aas;rw[Tm.bY] at hn;simp only[cm,Tm.bY] at hn;rw[bX abC];simp only[Tm.ck,cD,dV,gf,kW,bT];rw[xU (t:=b) VW,xU (t:=a) VW,ym FU b 0 (by rw[cP];omega) VW VW VW];simp only[bT];have q:=Tm.fW b 0;have hmul:b.aeh 0*a.aeb<=8192*8192:=D2 VW VW;have r:=Tm.oD a b 0 l;have u:=a.cw
  have e:(Tm.mk 3 i s [.mk 2 c d [b],a]).dg=Tm.eG 0 b a:=by simp[Tm.dg]
  rw[e]
  have hint:(b.aeh 0:Int)*((a.aeb:Int)-1)=((b.aeh 0*a.aeb:Nat):Int)-(b.aeh 0:Int):=by rw[S5,Su];simp
  rw[ds (a:=(a.aeb:Int)) VW VW,wB (by rw[hint];omega) (by rw[hint];omega),hint,cX VW VW,ds VW VW]
  congr 1
  omega
 |proj m=>
  rename_i k i s c d a b;rw[Tm.bY] at hn;simp only[cm,Tm.bY] at hn;rcases m with rfl|rfl
  ·rw[bV aas,bV aas,bV aas,bX abC];simp only[Tm.ck,cD,dV,gf,kW,bT];rw[xU (t:=a) VW];simp only[bT];rw[ds VW VW];simp[Tm.dg]
  ·rw[bV aas,bV aas,bV aas,bV aas];simp only[Tm.ck,cD,dV,gf,kW,bT];rw[xU (t:=b) VW];simp only[bT];rw[ds VW VW];simp[Tm.dg]
 |zero m=>
  rename_i k v i s c d b st;rw[Tm.bY] at hn;simp only[cm,Tm.bY] at hn
  have g:k≠3/\k≠11/\k≠12:=VW
  have:(Tm.mk k i s [b,st,.mk v c d []]).dg=b:=by simp[Tm.dg,g.1,g.2.1,g.2.2]
  rw[this];rcases m with⟨rfl,rfl⟩|⟨rfl,rfl⟩
  ·rw[bV aas,bX abC];simp only[Tm.ck,cD,dV,gP,gf,kW,bT];rw[bX abC,xU (t:=b) VW];simp only[bT];rw[ds VW VW]
  ·rw[bV aas,bV aas,bX abC];simp only[Tm.ck,cD,dV,gP,gf,kW,bT];rw[bX abC,xU (t:=b) VW];simp only[bT];rw[ds VW VW]
 |succ=>
  rename_i i s c d b st n
  have e:(Tm.mk 6 i s [b,st,.mk 5 c d [n]]).dg=iH st [n,.mk 6 i s [b,st,n]]:=by simp[Tm.dg,iH]
  rw[e,mV];rw[Tm.bY] at hn|-;simp only[cm,Tm.bY,j0,tP] at hn|-;rw[bV aas,bX abC];simp only[Tm.ck,cD,dV,gP,gf,kW,bT];rw[bV aas,xU (t:=st) VW,xU (t:=n) VW];simp only[bT];rw[cX (a:=2) VW VW,cX (b:=(n.aeb:Int)) VW VW,cX VW VW,ds (b:=1) VW VW,ds VW VW]
  congr 1
  omega
 |cons=>
  rename_i i s c d b st h n
  have e:(Tm.mk 9 i s [b,st,.mk 8 c d [h,n]]).dg=iH st [h,n,.mk 9 i s [b,st,n]]:=by simp[Tm.dg,iH]
  rw[e,mV];rw[Tm.bY] at hn|-;simp only[cm,Tm.bY,j0,tP] at hn|-;rw[bV aas,bV aas,bX abC];simp only[Tm.ck,cD,dV,gP,gf,kW,bT];rw[bV aas,xU (t:=st) VW,xU (t:=h) VW,xU (t:=n) VW];simp only[bT];rw[cX (a:=3) VW VW,cX (b:=(h.aeb:Int)) VW VW,cX (b:=(n.aeb:Int)) VW VW,cX VW VW,ds (b:=1) VW VW,ds (b:=(h.aeb:Int)) VW VW,ds VW VW]
  congr 1
  omega
def Nq{M:Int}(o:0<=M/\M<=1000000000000){t:Tm}(hs:Sm M t)(hn:t.aeb<=8192)(c:t.root=true):o7 t=some t.dg:=by
 have j:=hs.ok;have l:=Tm.Fk j c;have hw:=Tm.er t j;unfold o7;cases l with
 |app=>
  rename_i i s e f b a;have d:=(hs.arg (.mk 2 e f [b]) aas).arg b aas;have g:=hs.arg a aas;have p:=d.aeb;have q:=g.aeb;rw[bX abC];simp only[Tm.ck,cD,dV,gf,kW,bT];rw[Dk FU b 0 0 a (by rw[cP];omega) VW VW VW VW (d.mono o.2).aef d.ok VW (g.mono o.2).aef];simp[Tm.dg]
 |proj m=>
  rename_i k i s e f a b;rcases m with rfl|rfl
  ·rw[bV aas,bV aas,bV aas,bX abC];simp[Tm.dg,cD]
  ·rw[bV aas,bV aas,bV aas,bV aas];simp[Tm.dg,cD,dV]
 |zero m=>
  rename_i k r i s e f b st;rcases m with⟨rfl,rfl⟩|⟨rfl,rfl⟩
  ·rw[bV aas,bX abC];simp[Tm.dg,cD,gP,cn]
  ·rw[bV aas,bV aas,bX abC];simp[Tm.dg,cD,gP,cn]
 |succ=>
  rename_i i s e f b st n;have hi:i=0:=(Tm.jz j).2.2.1 aaq;subst hi;rw[Tm.fj] at hw;simp only[cm,Tm.fj] at hw;rw[bV aas,bX abC];simp only[Tm.ck,cD,dV,gP,gf,kW,bT,Tm.cQ];rw[bV aas,uE VW VW];simp only[bT];rw[A8 VW VW VW VW];simp only[bT];rw[ow _ _ (by simp only[cm,Tm.fj,Ty.z,Ty.bY];omega)];simp[Tm.dg,iH,Ty.z]
 |cons=>
  rename_i i s e f b st h n;have hi:i=0:=(Tm.jz j).2.2.1 aaq;subst hi;rw[Tm.fj] at hw;simp only[cm,Tm.fj] at hw;rw[bV aas,bV aas,bX abC];simp only[Tm.ck,cD,dV,gP,gf,kW,bT,Tm.cQ];rw[bV aas,uE VW VW];simp only[bT];rw[ow _ _ (by simp only[cm,Tm.fj,Ty.z,Ty.bY];omega)];simp only[bT];rw[A8 VW VW VW VW];simp only[bT];rw[ow _ _ (by simp only[cm,Tm.fj,Ty.z,Ty.bY];omega)];simp[Tm.dg,iH,Ty.z]
def WZ(t:Tm)(o:Option (Option Tm))(r:Tm×Bool×Bool):Prop:=
 match o with
 |none=>r.2.1=true/\r.2.2=false|some none=>r=(t,false,true)|some (some a)=>r=(a,true,true)
def Om{M:Int}(C:0<=M/\M<=1000000000000)(room:Int):∀(n:Nat) (t:Tm),t.aeb<=n->Sm M t->t.aeb<=8192->∃r,mX n t room=some r/\WZ t (t.F7 room) r
 |0,t,hn,_,_=>by have:=t.cw;omega
 |n+1,.mk k i s l,hn,hs,B=>by
  rw[mX,Ua hs.ok];simp only[bT];rw[Tm.AG]
  by_cases p:(Tm.mk k i s l).root=true
  ·rw[bX p,bX p,Qd hs.ok B p];simp only[bT,eE]
   by_cases hg:((Tm.mk k i s l).dg.aeb:Int)-((Tm.mk k i s l).aeb:Int)>room
   ·rw[bX hg,bX hg];exact⟨_,rfl,rfl,rfl⟩
   ·rw[bV hg,bV hg,Nq C hs B p];exact⟨_,rfl,rfl⟩
  ·rw[bV p,bV p];rw[Tm.bY] at hn B;have hlen:=Tm.SC hs.ok;simp only[Tm.ck,cg,ch (l:=l) VW,b9,Tm.cq,Tm.dQ,Tm.cQ]
   have key:∀(ts pre:List Tm),l=pre++ts->∃o,cY (λ(a:Int) (v:Tm)=>(λ(_:Unit)=>
     hU (mX n v room) λw x y=>
     if x then(
     eB (xH l)<|bU (cr l a) λD=>
     some (dP.ret ((Tm.mk k i s (xu l a w)),true,y)))
     else(some (.next ())))) ts pre.length ()=some o/\(match Tm.qp room ts with
      |none=>∃r:Tm×Bool×Bool,o=.inr r/\r.2.1=true/\r.2.2=false|some none=>o=.inl ()|some (some g)=>o=.inr (Tm.mk k i s (pre++g),true,true)):=by
    intro ts
    induction ts with
    |nil=>intro pre _;exact⟨_,rfl,by rw[Tm.qp]⟩|cons t ts E=>
     intro pre z
     have h:t∈l:=by rw[z];simp
     have F:=cy Tm.aeb h;obtain⟨⟨u,b,c⟩,G,j⟩:=Om C room n t VW (hs.arg t h) VW;rw[cO];simp only[G,na]
     have d:cr l ((pre.length:Nat):Int)=some t:=by
      unfold cr;rw[bX VW];rw[z];simp
     have dx:xu l ((pre.length:Nat):Int) u=pre++u::ts:=by
      unfold xu;rw[z,AM,EW]
     have f:xH l=true:=by
      unfold xH xy;have:0<l.length:=List.length_pos_of_mem h;exact tB VW
     rw[Tm.qp];unfold WZ at j;cases e:t.F7 room with
     |none=>
      rw[e] at j;obtain⟨q1,A⟩:=j;simp only at q1 A;rw[bX q1,f,b9,d];exact⟨_,rfl,_,rfl,rfl,A⟩
     |some o=>
      cases o with
      |none=>
       rw[e] at j;obtain⟨rfl,q⟩:=fI j;obtain⟨rfl,rfl⟩:=fI q;rw[bV aaq];simp only[bT,cU];obtain⟨o,o1,o2⟩:=E (pre++[u]) (by rw[z];simp);rw[ni] at o1;refine⟨o,o1,?_⟩;cases m:Tm.qp room ts with
       |none=>rw[m] at o2;exact o2
       |some q=>
        cases q with
        |none=>rw[m] at o2;exact o2
        |some g=>rw[m] at o2;simpa using o2
      |some H=>
       rw[e] at j;obtain⟨rfl,q⟩:=fI j;obtain⟨rfl,rfl⟩:=fI q;rw[bX rfl,f,b9,d];simp only[bT,dx];exact⟨_,rfl,rfl⟩
   obtain⟨o,o1,o2⟩:=key l [] rfl;rw[show(([]:List Tm).length)=0 from rfl] at o1;rw[o1];cases m:Tm.qp room l with
   |none=>
    rw[m] at o2;obtain⟨r,rfl,q1,A⟩:=o2;exact⟨r,rfl,q1,A⟩
   |some q=>
    cases q with
    |none=>rw[m] at o2;subst o2;exact⟨_,rfl,rfl⟩
    |some g=>rw[m] at o2;subst o2;exact⟨_,rfl,rfl⟩
def nr{t:Tm}(h:t.err=0):t.ok=true/\t.aeb<=4096:=Tm.d_ h
def A3(steps:Int)(z:0<=steps/\steps<=65536):∀(k:Nat) (m:Int) (t:Tm) (N:Nat),(k:Int)=steps-m->0<=m->Sm (536870912+8192*m) t->t.aeb<=4096->k<N->nY ((QF λ(d:Int) (f:Int) (g:Int) (i:Int) (j:List Ty) (l:List Tm)=>
   bU (dM FU (Tm.mk f g (Ty.mk i j) l)) λr=>
   hU (mX FU (Tm.mk f g (Ty.mk i j) l) (dh .i64 4096 r)) λa s v=>
   if s then(
   if(cn d steps) then(
   some (.ret ((Tm.mk 0 0 (Ty.mk 0 []) []),0,5)))
   else(if v then(
   some (.next ((c8 .i64 d 1),a.ad',a.aec,a.b8.ad',a.b8.aea,a.aea)))
   else(some (.ret ((Tm.mk 0 0 (Ty.mk 0 []) []),0,4)))))
   else(bU (kf FU (Tm.mk f g (Ty.mk i j) l)) λw=>
   some (.ret (w,d,0)))):(Int×Int×Int×Int×(List Ty)×(List Tm))->(Option (dP (Int×Int×Int×Int×(List Ty)×(List Tm)) (Tm×Int×Int)))) N (m,t.ad',t.aec,t.b8.ad',t.b8.aea,t.aea)=some (.inr (t.norm k m))
 |k,m,t,0,_,_,_,_,A=>by omega|k,m,t,N+1,C,hm,hs,hn,A=>by
  rw[l6];simp only[yO,WU];have hw:=Tm.er t hs.ok;rw[xU VW];simp only[bT];rw[ds VW VW];obtain⟨⟨u,b,c⟩,B,n⟩:=Om (M:=536870912+8192*m) VW (4096-t.aeb) FU t (by rw[cP];omega) hs VW;rw[B];simp only[na];unfold WZ at n;cases e:t.F7 (4096-t.aeb)with
  |none=>
   rw[e] at n;obtain⟨q1,y⟩:=n;simp only at q1 y;rw[bX q1];cases k with
   |zero=>
    have p:¬t.nf=true:=by
     intro h;rw[(yE _ t).1 h] at e;cases e
    rw[bX (by simp[cn];omega),Tm.norm,bV p];rfl
   |succ k=>
    rw[bV (by simp[cn];omega),bV (by rw[y];decide),LK e];rfl
  |some o=>
   cases o with
   |none=>
    rw[e] at n;obtain⟨rfl,q⟩:=fI n;obtain⟨rfl,rfl⟩:=fI q;rw[bV aaq,sj VW];cases k with
    |zero=>rw[Tm.norm,bX ((yE _ _).2 e)];rfl|succ k=>rw[zj e];rfl
   |some D=>
    rw[e] at n;obtain⟨rfl,q⟩:=fI n;obtain⟨rfl,rfl⟩:=fI q;rw[bX rfl];cases k with
    |zero=>
     have p:¬t.nf=true:=by
      intro h;rw[(yE _ t).1 h] at e;cases e
     rw[bX (by simp[cn];omega),Tm.norm,bV p];rfl
    |succ k=>
     obtain⟨s1,s2,E⟩:=I8 (M:=536870912+8192*m) VW t hs VW _ e;rw[bV (by simp[cn];omega),bX rfl,zb e,cX VW VW];have x:Sm (536870912+8192*(m+1)) u:=⟨s1,by rw[show 536870912+8192*(m+1)=536870912+8192*m+8192 by omega];exact s2,VW⟩;exact A3 steps z k (m+1) u N VW VW x VW VW
def IA:∀(k:Nat) (m:Int) (t p:Tm) (n e:Int),t.norm k m=(p,n,e)->e≠0->p=Tm.z
 |0,m,t,p,n,e,h,he=>by
  rw[Tm.norm] at h
  split at h
  ·obtain⟨_,h⟩:=fI h;obtain⟨_,h⟩:=fI h;exact absurd h.symm he
  ·exact(fI h).1.symm
 |k+1,m,t,p,n,e,h,he=>by
  rw[Tm.norm] at h
  split at h
  ·exact(fI h).1.symm
  ·obtain⟨_,h⟩:=fI h;obtain⟨_,h⟩:=fI h;exact absurd h.symm he
  ·exact IA k _ _ _ _ _ h he
def yb{t:Tm}(hw:t.wt<=1000000)(steps:Int):∃p m e,kM t steps=some (p,m,e)/\kz t steps=some (p,m,e)/\p.wt<=1000000000:=by
 have i:=t.fX
 have c:Tm.z.wt<=1000000000:=aaq
 have a:=wc (t:=t) VW steps;unfold kz;rw[mc VW];simp only[bT]
 by_cases he:t.err=0
 ·obtain⟨j,hn⟩:=nr he;rw[bX he] at a;rw[bV (by simp[cF,he])];simp only[cg,jC,eE]
  by_cases a1:steps<0
  ·rw[bV VW] at a;rw[bX a1,bX trivial];exact⟨_,_,_,a,rfl,c⟩
  ·rw[bV a1]
   by_cases a2:steps>65536
   ·rw[bV VW] at a;rw[bX a2,bX trivial];exact⟨_,_,_,a,rfl,c⟩
   ·rw[bV a2,yI FU t 536870912 (by rw[cP];omega) VW];simp only[bT]
    by_cases b:t.aef 536870912=true
    ·rw[bX ⟨VW,VW,b⟩] at a;have hs:Sm 536870912 t:=⟨j,b,VW⟩;rw[b,bV aaq,A3 steps VW steps.toNat 0 t FU VW VW hs VW (by rw[cP];omega)];generalize d:t.norm steps.toNat 0=o at a;obtain⟨p,m,e⟩:=o;refine⟨p,m,e,a,rfl,?_⟩;have f:=BZ steps.toNat 0 t
     by_cases g:e=0
     ·subst g;obtain⟨q1,k⟩:=EG _ 536870912 _ _ _ _ VW hs hn d;have:=Tm.er p q1.ok;omega
     ·rw[IA _ _ _ _ _ _ d g];exact c
    ·rw[bV (λh=>b h.2.2)] at a;rw[bX (by rw[Bool.not_eq_true] at b;rw[b];rfl)];exact⟨_,_,_,a,rfl,c⟩
 ·rw[bV he] at a;rw[bX (by simp[cF,he])];exact⟨_,_,_,a,rfl,c⟩
def HV{a b:Tm}(c:a.wt<=1000000000):∃r,uc a b=some r/\iY FU a b=some r:=by
 obtain⟨r,d,e⟩:=u6 (b:=b) c;obtain⟨q,q1,f⟩:=zP FU a b (by rw[cP];exact c) c
 have:r=q:=by rw[A_,e,f]
 subst this;exact⟨r,d,q1⟩
def Nf{a b:Tm}(l:a.wt<=1000000)(o:b.wt<=1000000)(steps:Int):∃c,lJ a b steps=some c/\qb a b steps=some c:=by
 unfold lJ qb;rw[n_ VW,n_ (t:=b) VW,mc VW,mc (t:=b) VW];simp only[bT]
 by_cases d:cF a.err 0=true
 ·rw[bX d,bX d];exact⟨_,rfl,rfl⟩
 ·rw[bV d,bV d]
  by_cases g:cF b.err 0=true
  ·rw[bX g,bX g];exact⟨_,rfl,rfl⟩
  ·rw[bV g,bV g];obtain⟨r,u,v⟩:=HV (a:=a) (b:=b) VW;rw[u,v];simp only[bT]
   by_cases h:r=true
   ·rw[bX h,bX h];exact⟨_,rfl,rfl⟩
   ·rw[bV h,bV h];obtain⟨p,m,e,w,x,y⟩:=yb l steps;obtain⟨q,n,f,q1,z,A⟩:=yb o steps;rw[w,x,q1,z];simp only[na]
    by_cases i:cF e 0=true
    ·rw[bX i,bX i];exact⟨_,rfl,rfl⟩
    ·rw[bV i,bV i]
     by_cases j:cF f 0=true
     ·rw[bX j,bX j];exact⟨_,rfl,rfl⟩
     ·rw[bV j,bV j];obtain⟨s,s1,s2⟩:=HV (a:=p) (b:=q) y;rw[s1,s2];simp only[bT]
      by_cases k:s=true
      ·rw[bX k];exact⟨_,rfl,rfl⟩
      ·rw[bV k];exact⟨_,rfl,rfl⟩
def CL{α:Type}{E E':α->α->Option Int}{M:List α}:∀(l:List α) (i:Nat),(∀x∈l,∀y∈M,∃c,E x y=some c/\E' x y=some c)->i+l.length<=M.length->∃o,cY (λ(d:Int) (e:α)=>(λ(_:Unit)=>bU (cr M d) λb=>bU (E e b) λa=>if(cF a 0) then(some (.ret a))else(some ((.next ()):dP Unit Int)))) l i ()=some o/\cY (λ(d:Int) (e:α)=>(λ(_:Unit)=>bU (cr M d) λb=>bU (E' e b) λa=>if(cF a 0) then(some (.ret a))else(some ((.next ()):dP Unit Int)))) l i ()=some o
 |[],i,_,_=>⟨.inl (),aas,aas⟩|x::l,i,h,g=>by
  simp only[j0] at g;obtain⟨c,j,k⟩:=h x aas M[i] (BB VW);rw[cO,cO,gQ,mi VW];simp only[bT,j,k]
  by_cases f:cF c 0=true
  ·rw[bX f];exact⟨.inr c,rfl,rfl⟩
  ·rw[bV f];simp only[bT,cU];exact CL l (i+1) (λy hy=>h y (by simp[hy])) VW
def Fm.shape{k:Int}{s f:Ty}{ts us:List Tm}{l m:List Fm}(h:(Fm.mk k s ts l).ok=true)(d:(Fm.mk k f us m).ok=true):ts.length=us.length/\l.length=m.length:=by
 rw[Fm.ei] at h d;simp only[eg] at h d;have c:=h.1.1;have a:=d.1.1;unfold Fm.node at c a
 split at c
 ·rename_i e;rw[bX e] at a;simp only[eg,m0] at c a;omega
 ·rename_i e;rw[bV e] at a
  split at c
  ·rename_i b;rw[bX b] at a;simp only[eg,m0] at c a;omega
  ·rename_i b;rw[bV b] at a;simp only[eg,m0] at c a;omega
def MA:∀(n:Nat) (a b:Fm),a.wt<=n->a.wt<=1000000->b.wt<=1000000->a.ok=true->b.ok=true->∃c,jE n a b=some c/\n5 n a b=some c:=by
 intro n
 induction n with
 |zero=>intro t b h;have:=t.hD;omega
 |succ n w=>
  intro a b h z g p d;cases a with
  |mk k s ts l=>
  cases b with
  |mk k' A us m=>
   rw[Fm.fj] at h z g;have D:=Fm.m5 l;have B:=Tm.m5 ts;rw[jE,n5];simp only[Fm.ck,Fm.cq,Fm.eY,Fm.cQ,cg,ch (l:=l) VW,ch (l:=ts) VW,b9,cf]
   by_cases e:k≠k'
   ·rw[bX e,bX e];exact⟨11,rfl,rfl⟩
   ·rw[bV e,bV e,om VW,gn VW];simp only[bT];have i:k=k':=vd.1 e;subst i;obtain⟨s1,s2⟩:=Fm.shape p d;obtain⟨_,F,ol⟩:=Fm.m_ p;obtain⟨_,C,j⟩:=Fm.m_ d;cases s.jc A with
    |false=>exact⟨11,rfl,rfl⟩|true=>
     obtain⟨o,q,k2⟩:=CL (E:=λx y=>lJ x y 1000) (E':=λx y=>qb x y 1000) (M:=us) ts 0 (λx f y hy=>Nf (by have:=cy Tm.wt f;omega) (by have:=cy Tm.wt hy;omega) 1000) VW;simp only[cf] at q k2;rw[bV aaq,bV aaq,q,k2];cases o with
     |inr r=>exact⟨r,rfl,rfl⟩|inl u=>
      simp only[bT,ca];obtain⟨o,q1,v⟩:=CL (E:=λx y=>jE n x y) (E':=λx y=>n5 n x y) (M:=m) l 0 (λx f y hy=>w x y (by have:=cy Fm.wt f;omega) (by have:=cy Fm.wt f;omega) (by have:=cy Fm.wt hy;omega) (ol x f) (j y hy)) VW;simp only[cf] at q1 v;rw[q1,v];cases o with
      |inr r=>exact⟨r,rfl,rfl⟩|inl u=>exact⟨0,rfl,rfl⟩
def AR{a b:Fm}(f:a.wt<=1000000000)(g:b.wt<=1000000000):∃c,jF a b=some c/\kI a b=some c:=by
 unfold jF kI;rw[fh f,fh g,iU f,iU g];simp only[bT,cf]
 by_cases d:a.err≠0
 ·rw[bX d,bX d];exact⟨_,rfl,rfl⟩
 ·rw[bV d,bV d]
  by_cases e:b.err≠0
  ·rw[bX e,bX e];exact⟨_,rfl,rfl⟩
  ·rw[bV e,bV e];obtain⟨o1,n1⟩:=Fm.d_ (vd.1 d);obtain⟨o2,n2⟩:=Fm.d_ (vd.1 e);have j:=a.er o1;have k:=b.er o2;obtain⟨c,h,i⟩:=MA FU a b (by rw[cP];omega) VW VW o1 o2;rw[h,i];exact⟨c,rfl,rfl⟩
def uQ{g:List Ty}{x:Tm}{t:Ty}(h:cJ g x t)(hg:gd g)(a:g.length+x.aeb<=1000000):x.ty g=(t,0):=by
 have b:=(R8 h hg).2 x.aeb (fT _) a;rw[yx x.aeb x (fT _) h.ok g hg a] at b;exact fS b
def Lo{g:List Ty}{x:Tm}(c:x.ok=true)(hg:gd g)(h:mT x g 1=0):cJ g x .nat:=by
 unfold mT at h
 split at h
 ·cases h
 ·rename_i d
  have e:(x.ty g).1.ad'=1:=by
   rcases Int.emod_two_eq (x.ty g).1.ad' with _|_<;>
   ·by_cases a:(x.ty g).1.ad'=1
    ·exact a
    ·exact absurd ⟨h,a⟩ d
  obtain⟨b,f⟩:=pq _ x (fT _) c g hg _ (xK h);rw[(tS f).1 e] at b;exact b
def Ox{g:List Ty}{x:Tm}(h:cJ g x .nat)(hg:gd g)(a:g.length+x.aeb<=1000000):mT x g 1=0:=by
 unfold mT;rw[uQ h hg a];exact bV (λh=>h.2 rfl)
def p6(f:Fm)(o:f.ok=true):∀g,gd g->f.ti g=0->fg g f:=by
 refine Fm.lC (p:=λf=>∀g,gd g->f.ti g=0->fg g f) ?_ ?_ ?_ f o
 ·intro a b j n g hg h;rw[Fm.sC] at h
  by_cases c:mT a g 1=0
  ·by_cases e:mT b g 1=0
   ·exact .eq (Lo j hg c) (Lo n hg e)
   ·simp[dq,c,e] at h
  ·simp[dq,c] at h
 ·intro k a b i j n d l g hg h
  have m:hI k=false:=by rcases i with rfl|rfl<;>rfl
  rw[Fm.sC,m] at h;simp only[m7,dq,k_,if_true,gX,fL] at h
  by_cases c:a.ti g=0
  ·rw[bX c] at h
   by_cases e:b.ti g=0
   ·exact .two i (d g hg c) (l g hg e)
   ·rw[bV e] at h;exact absurd h e
  ·rw[bV c] at h;exact absurd h c
 ·intro k s a i hs j d g hg h
  have m:hI k=true:=by rcases i with rfl|rfl|rfl|rfl<;>rfl
  rw[Fm.sC,m] at h;simp only[m7,dq,k_,if_true] at h
  by_cases c:a.ti (g++[s])=0
  ·exact .q i hs (d _ (hg.app hs) c)
  ·rw[bV c] at h;exact absurd h c
def qL{g:List Ty}{f:Fm}(h:fg g f):gd g->g.length+f.aeb<=1000000->f.ti g=0:=by
 induction h with
 |eq l m=>
  intro hg c;rw[Fm.bY] at c;simp only[cm] at c;rw[Fm.sC];simp[dq,Ox l hg VW,Ox m hg VW]
 |two d _ _ e i=>
  intro hg c;rw[Fm.bY] at c;simp only[cm] at c;rename_i k a b _ _
  have j:hI k=false:=by rcases d with rfl|rfl<;>rfl
  rw[Fm.sC,j];simp[dq,e hg VW,i hg VW]
 |q d hs _ n=>
  intro hg c;rw[Fm.bY] at c;simp only[cm] at c;rename_i k s a _
  have j:hI k=true:=by rcases d with rfl|rfl|rfl|rfl<;>rfl
  rw[Fm.sC,j];simp[dq,n (hg.app hs) aaQ]
def fg.up{g:List Ty}{f:Fm}(h:fg g f):∀g1 g2 e:List Ty,g=g1++g2->fg (g1++e++g2) (f.up g2.length e.length):=by
 induction h with
 |eq l m=>
  intro g1 g2 e hg;rw[Fm.fD];exact .eq (l.up g1 g2 e hg) (m.up g1 g2 e hg)
 |two c _ _ d i=>
  intro g1 g2 e hg;rename_i k a b _ _
  have j:qB k=0:=by rcases c with rfl|rfl<;>rfl
  rw[Fm.fD,j,wo];exact .two c (d g1 g2 e hg) (i g1 g2 e hg)
 |q c hs _ n=>
  intro g1 g2 e hg;rename_i k s a _
  have j:qB k=1:=by rcases c with rfl|rfl|rfl|rfl<;>rfl
  subst hg;have:=n g1 (g2++[s]) e (by rw[pQ]);rw[Fm.fD,j];rw[ni,<-pQ] at this;exact .q c hs this
def fg.lift{g:List Ty}{f:Fm}(h:fg g f)(e:List Ty):fg (g++e) (f.up 0 e.length):=by
 have:=h.up g [] e aas;simpa using this
theorem fg.eG{g:List Ty}{f:Fm}(h:fg g f):∀(g1:List Ty) (s:Ty) (g2:List Ty) (a:Tm),g=g1++[s]++g2->cJ g1 a s->fg (g1++g2) (Fm.eG g2.length f a):=by
 induction h with
 |eq j l=>
  intro g1 s g2 a hg b;rw[Fm.ey];exact .eq (j.eG g1 s g2 a hg b) (l.eG g1 s g2 a hg b)
 |two c _ _ d e=>
  intro g1 s g2 a hg b;rename_i k x y _ _
  have i:qB k=0:=by rcases c with rfl|rfl<;>rfl
  rw[Fm.ey,i,wo];exact .two c (d g1 s g2 a hg b) (e g1 s g2 a hg b)
 |q c hs _ m=>
  intro g1 s g2 a hg b;rename_i k n x _
  have i:qB k=1:=by rcases c with rfl|rfl|rfl|rfl<;>rfl
  subst hg;have:=m g1 s (g2++[n]) a aas b;rw[Fm.ey,i];rw[ni,<-pQ] at this;exact .q c hs this
def fg.put{g:List Ty}{s:Ty}{f:Fm}(h:fg (g++[s]) f){a:Tm}(b:cJ g a s):fg g (Fm.eG 0 f a):=by
 have:=h.eG g s [] a aas b;simpa using this
def cJ.front{g:List Ty}{x:Tm}{t:Ty}(h:cJ g x t)(e:List Ty):cJ (e++g) x t:=by
 induction h with
 |@var g t i c j=>
  refine .var i aaQ ?_;rw[qU aaQ,<-j]
  congr 1
  simp;omega
 |lam c _ d=>exact .lam c (by rw[pQ];exact d)|app _ _ a b=>exact .app a b|zero=>exact .zero|succ _ d=>exact .succ d|r9 c _ _ _ a b f=>exact .r9 c a b f|nil=>exact .nil|cons _ _ a b=>exact .cons a b|fold c _ _ _ a b f=>exact .fold c a b f|pair c _ _ a b=>exact .pair c a b|fst _ d=>exact .fst d|snd _ d=>exact .snd d|unit=>exact .unit
def fg.front{g:List Ty}{f:Fm}(h:fg g f)(e:List Ty):fg (e++g) f:=by
 induction h with
 |eq d i=>exact .eq (d.front e) (i.front e)|two a _ _ b c=>exact .two a b c|q a hs _ j=>exact .q a hs (by rw[pQ];exact j)
structure Hg (g:List Ty) (f:Fm):Prop where
 err:f.err=0
 ty:fg g f
def Hg.aeb{g:List Ty}{f:Fm}(h:Hg g f):f.aeb<=4096:=(Fm.d_ h.err).2
def Hg.ok{g:List Ty}{f:Fm}(h:Hg g f):f.ok=true:=(Fm.d_ h.err).1
def Hg.aef{g:List Ty}{f:Fm}(h:Hg g f)(hg:g.length<=16){m:Int}(hm:5000<=m):f.aef m=true:=h.ty.aef m (by have:=h.aeb;omega)
def Hg.hy{g:List Ty}{f:Fm}(h:Hg g f)(hg:g.length<=16):Hy f:=⟨h.err,h.aef hg VW⟩
def Hg.up{g:List Ty}{f:Fm}(h:Hg g f)(l:List Ty):Hg (g++l) (f.up 0 l.length):=by
 have hn:=Fm.lS f 0 l.length;obtain⟨a,b⟩:=Fm.d_ h.err;refine⟨?_,h.ty.lift l⟩;unfold Fm.err;rw[Fm.xM f 0 l.length VW VW,a,bX rfl,hn,bV VW]
structure PG (L:List Fm) (p:cp) (c:bZ):Prop where
 pl:T7 p c
 I_:c.lemmas=L
 X8:∀f∈L,Hg [] f
 aeg:∀f∈c.aeg,Hg c.aed f
def PG.R7{L:List Fm}{p:cp}{c:bZ}(h:PG L p c){l:List Ty}(j:gd l)(hn:c.aed.length+l.length<=16):∃d a,dT p l=some d/\dk c l=some a/\PG L d a/\a.aed=c.aed++l/\a.aeg=c.aeg.map (Fm.up 0 l.length):=by
 obtain⟨d,a,k,m,n,o,g,i⟩:=h.pl.below j hn (λf b=>⟨(h.aeg f b).err,(h.aeg f b).aef h.pl.nv VW⟩);refine⟨d,a,k,m,⟨n,o.trans h.I_,h.X8,λf b=>?_⟩,g,i⟩;rw[i] at b;obtain⟨f0,e,rfl⟩:=ll.1 b;rw[g];exact(h.aeg f0 e).up l
def PG.below{L:List Fm}{p:cp}{c:bZ}(h:PG L p c){s:Ty}(hs:s.err=0)(hn:c.aed.length+1<=16):∃b a,dT p [s]=some b/\dk c [s]=some a/\PG L b a/\a.aed=c.aed++[s]/\a.aeg=c.aeg.map (Fm.up 0 1):=
 h.R7 (l:=[s]) (λx d=>by rw[AL.1 d];exact hs) hn
def PG.with{L:List Fm}{p:cp}{c:bZ}(h:PG L p c){f:Fm}(d:Hg c.aed f)(hn:c.aeg.length+1<=16):∃b a,ef p f=some b/\ee c f=some a/\PG L b a/\a.aed=c.aed/\a.aeg=c.aeg++[f]:=by
 obtain⟨b,a,i,j,k,l,e,g⟩:=h.pl.with (d.hy h.pl.nv) hn;refine⟨b,a,i,j,⟨k,l.trans h.I_,h.X8,λx hx=>?_⟩,e,g⟩;rw[g] at hx;rw[e];rcases qO.1 hx with hx|hx
 ·exact h.aeg x hx
 ·rw[AL.1 hx];exact d
def PG.room{L:List Fm}{p:cp}{c:bZ}(h:PG L p c){v k:Nat}(e:v<=100)(f:k<=100):(cM p.eT v k=some 0/\cG c v k=some 0/\c.aed.length+v<=16/\c.aeg.length+k<=16)\/(cM p.eT v k=some 3/\cG c v k=some 3/\(16<c.aed.length+v\/16<c.aeg.length+k)):=by
 unfold cM cG;have b:=h.pl.vars;have d:=h.pl.aeg;have g:=h.pl.nv;have i:=h.pl.nh;rw[b,d,dI,dI,cX VW VW,cX VW VW,jB]
 by_cases a:(nG ((c.aed.length:Int)+v) 16||nG ((c.aeg.length:Int)+k) 16)=true
 ·rw[bX a];simp only[o0,eE] at a;exact .inr ⟨rfl,rfl,VW⟩
 ·rw[bV a];simp only[o0,eE,not_or] at a;exact .inl ⟨rfl,rfl,VW,VW⟩
def EK.len{N:Int}:∀{l:List Int} {lo:Int},EK l->(∀x∈l,lo<=x/\x<N)->(l.length:Int)<=max 0 (N-lo)
 |[],lo,_,_=>by simp;omega|a::l,lo,.cons c d,h=>by
  have e:=h a aas;have f:=EK.len (lo:=a+1) d (λx b=>⟨by have:=c x b;omega,(h x (by simp[b])).2⟩);simp only[j0];omega
def Us.len{l:List Int}{m:Nat}(h:Us l m):l.length<=32:=by
 have:=EK.len (N:=32) (lo:=0) h.srt (λx a=>⟨h.pos x a,h.bound x a⟩);omega
def cJ.N8{g:List Ty}{x:Tm}{t:Ty}(h:cJ g x t):∀j:Int,(g.length:Int)<=j->x.aeh j=0:=by
 induction h with
 |@var g t i k l=>
  intro j a;rw[Tm.eC,bV (λh=>by have:=h.2;omega)];rfl
 |@lam g s b t k _ e=>
  intro j a;rw[Tm.eC,bV (λh=>by cases h.1)];simp only[cm];rw[e (j+dB 2) (by show _<=j+1;simp;omega)]
 |app _ _ c d=>intro j a;rw[Tm.eC,bV (λh=>by cases h.1)];simp only[cm,show dB 3=0 from rfl,wo,c j a,d j a]
 |zero=>intro j a;rw[Tm.eC,bV (λh=>by cases h.1)];rfl
 |succ _ e=>intro j a;rw[Tm.eC,bV (λh=>by cases h.1)];simp only[cm,show dB 5=0 from rfl,wo,e j a]
 |r9 k _ _ _ c d f=>intro j a;rw[Tm.eC,bV (λh=>by cases h.1)];simp only[cm,show dB 6=0 from rfl,wo,c j a,d j a,f j a]
 |nil=>intro j a;rw[Tm.eC,bV (λh=>by cases h.1)];rfl
 |cons _ _ c d=>intro j a;rw[Tm.eC,bV (λh=>by cases h.1)];simp only[cm,show dB 8=0 from rfl,wo,c j a,d j a]
 |fold k _ _ _ c d f=>intro j a;rw[Tm.eC,bV (λh=>by cases h.1)];simp only[cm,show dB 9=0 from rfl,wo,c j a,d j a,f j a]
 |pair k _ _ c d=>intro j a;rw[Tm.eC,bV (λh=>by cases h.1)];simp only[cm,show dB 10=0 from rfl,wo,c j a,d j a]
 |fst _ e=>intro j a;rw[Tm.eC,bV (λh=>by cases h.1)];simp only[cm,show dB 11=0 from rfl,wo,e j a]
 |snd _ e=>intro j a;rw[Tm.eC,bV (λh=>by cases h.1)];simp only[cm,show dB 12=0 from rfl,wo,e j a]
 |unit=>intro j a;rw[Tm.eC,bV (λh=>by cases h.1)];rfl
def eI:Fm:=.mk 0 (.mk 0 []) [] []
def Jf(k:Option (b0×Int)):Option (b0×Int):=
 b7 k λa b=>
 if(cF b 0) then(
 some ((b0.mk (Fm.mk 0 (Ty.mk 0 []) [] []) 0),b))
 else(bU (e9 a.cd) λd=>
 if(cF d 0) then(
 some ((b0.mk (Fm.mk 0 (Ty.mk 0 []) [] []) 0),4))
 else(cB (λ(v30:Int)=>
 some ((b0.mk a.cd v30),0)) λc=>
 b7 (rN a.cd) λe f=>
 if e then(
 c a.eX)
 else(c 0)))
def Jl(r:Option (Fm×List Int×Int)):Option (s9×Int):=
 hU r λb g f=>
 if(cF f 0) then(
 some ((s9.mk (Fm.mk 0 (Ty.mk 0 []) [] []) []),f))
 else(bU (iA b) λc=>
 if(cF c 0) then(
 some ((s9.mk (Fm.mk 0 (Ty.mk 0 []) [] []) []),4))
 else(cB (λ(d:List Int)=>
 some ((s9.mk b d),0)) λa=>
 b7 (ny b) λe h=>
 if e then(
 a g)
 else(a [])))
def A5{α:Type}{F:Int->α->Unit->Option (dP Unit Bool)}(w:α->Nat):∀(l:List α) (i:Nat),(∀j x,x∈l->F j x ()=if 0<w x then some (.ret true)else some (.next ()))->cY F l i ()=some (if 0<cm w l then .inr true else .inl ())
 |[],i,_=>rfl|x::l,i,h=>by
  have c:=A5 w l (i+1) (λj y hy=>h j y (by simp[hy]));rw[cO,h i x aas]
  by_cases a:0<w x
  ·rw[bX a,bX (show 0<cm w (x::l) by simp only[cm];omega)];rfl
  ·rw[bV a];show cY F l (i+1) ()=_;rw[c]
   by_cases b:0<cm w l
   ·rw[bX b,bX (show 0<cm w (x::l) by simp only[cm];omega)]
   ·rw[bV b,bV (show¬0<cm w (x::l) by simp only[cm];omega)]
def JR:∀(n:Nat) (t:Tm) (a:Int),t.aeb<=n->t.aeb<=1000000000->0<=a->a+t.aeb<=10000000000->s8 n t a=some (decide (0<t.aeh a)):=by
 intro n
 induction n with
 |zero=>intro t a h;have:=t.cw;omega
 |succ n f=>
  intro t a h d o e;cases t with
  |mk k i s l=>
   rw[Tm.bY] at h d e;have p:=Tm.dm l;have q:=gE k;rw[s8,Tm.eC];simp only[Tm.ck,Tm.dQ,Tm.cq,cg,qi,eg,eu]
   by_cases c:k=1/\i=a
   ·rw[bX c,bX c]
    congr 1
    exact(tB VW).symm
   ·rw[bV c,bV c,ch VW,b9,A5 (Tm.aeh (a+dB k)) l 0 (λj x g=>by
     have m:=cy Tm.aeb g;rw[mo,bT,Tm.cq,cX VW VW,f x (a+dB k) VW VW VW VW,bT]
     by_cases b:0<x.aeh (a+dB k)
     ·rw[bX b,bX (tB b)]
     ·rw[bV b,bV (by simpa using b)]),bT,tu]
    by_cases b:0<cm (Tm.aeh (a+dB k)) l
    ·rw[bX b,qm,tB b]
    ·rw[bV b,ca,Bo b]
def BH:∀(n:Nat) (t:Fm) (a:Int),t.aeb<=n->t.aeb<=1000000000->0<=a->a+t.aeb<=10000000000->oJ n t a=some (decide (0<t.aeh a)):=by
 intro n
 induction n with
 |zero=>intro t a h;have:=t.cw;omega
 |succ n i=>
  intro t a h c o d;cases t with
  |mk k s ts l=>
   rw[Fm.bY] at h c d;have p:=Fm.dm l;have m:=Tm.dm ts;have q:=vV k;rw[oJ,Fm.eC];simp only[Fm.ck,Fm.eY,cg]
   rw[ch VW,b9,A5 (Tm.aeh a) ts 0 (λj x e=>by
    have f:=cy Tm.aeb e;rw[JR FU x a (by rw[cP];omega) VW VW VW,bT]
    by_cases b:0<x.aeh a
    ·rw[bX b,bX (tB b)]
    ·rw[bV b,bV (by simpa using b)]),bT]
   by_cases g:0<cm (Tm.aeh a) ts
   ·rw[bX g,qm,tB VW]
   ·rw[bV g,ca,ch VW,b9,A5 (Fm.aeh (a+qB k)) l 0 (λj x e=>by
     have f:=cy Fm.aeb e;rw[ou,bT,Fm.cq,cX VW VW,i x (a+qB k) VW VW VW VW,bT]
     by_cases b:0<x.aeh (a+qB k)
     ·rw[bX b,bX (tB b)]
     ·rw[bV b,bV (by simpa using b)]),bT]
    by_cases b:0<cm (Fm.aeh (a+qB k)) l
    ·rw[bX b,qm,tB VW]
    ·rw[bV b,ca,Bo VW]
def Tm.Bf(s:Tm):∀(t:Tm) (n:Int),t.ok=true->t.aeh n=0->Tm.eG n t s=t.up (n+1) (-1):=by
 intro t
 induction t using Tm.ind with
 |h k i ty l g=>
  intro n d e;have hi:=Tm.jz d;rw[Tm.eC] at e;rw[Tm.ey,Tm.fD]
  by_cases a:k=1
  ·subst a;obtain⟨rfl,rfl⟩:=Tm.NM d
   have b:i≠n:=λh=>by rw[bX ⟨rfl,h⟩] at e;omega
   rw[bX rfl];unfold Tm.m4;rw[bV b]
   by_cases f:n<i
   ·rw[bX f,bX ⟨rfl,VW⟩];rfl
   ·rw[bV f,bV (λh=>by omega)];rfl
  ·rw[bV a,bV (λh=>a h.1)]
   congr 1
   refine qf λx c=>?_;have:=cy (Tm.aeh (n+dB k)) c;rw[g x c (n+dB k) (hi.2.2.2.1 x c) VW,show n+dB k+1=n+1+dB k by omega]
def Fm.Bf(s:Tm):∀(t:Fm) (n:Int),t.ok=true->t.aeh n=0->Fm.eG n t s=t.up (n+1) (-1):=by
 intro t
 induction t using Fm.ind with
 |h k ty ts l b=>
  intro n c d;obtain⟨_,e,f⟩:=Fm.m_ c;rw[Fm.eC] at d;rw[Fm.ey,Fm.fD]
  congr 1
  ·refine qf λx a=>?_;have:=cy (Tm.aeh n) a;exact Tm.Bf s x n (e x a) VW
  ·refine qf λx a=>?_;have:=cy (Fm.aeh (n+qB k)) a;rw[b x a (n+qB k) (f x a) VW,show n+qB k+1=n+1+qB k by omega]
def Ju:∀(n:Nat) (t:Tm) (f:Int),t.aeb<=n->t.aeb<=1000000000->0<=f->f+t.aeb<=10000000000->t.aef 1000000000000=true->qC n t f (-1)=some (t.up f (-1)):=by
 intro n
 induction n with
 |zero=>intro t f h;have:=t.cw;omega
 |succ n o=>
  intro t f h a u b hi;cases t with
  |mk k i s l=>
   rw[Tm.bY] at h a b;rw[Tm.dp] at hi;simp only[eg,m0,im] at hi;have w:=Tm.dm l;have y:=gE k;rw[qC];simp only[Tm.ck,Tm.dQ,Tm.cq,Tm.cQ,cg,ch (l:=l) VW,b9];rw[gZ (Tm.up (f+dB k) (-1)) l 0 [] aaQ]
   ·rw[Tm.fD];simp only[bT,ca,m6,uq,Tm.mk.injEq,LC,BR]
    by_cases c:k=1/\f<=i
    ·obtain⟨rfl,d⟩:=c;rw[cX VW VW];have p:cn 1 1=true:=rfl
     have q:qJ i f=true:=by simp[d]
     simp[p,q,d]
    ·rw[bV c]
     have e:df (cn k 1) (qJ i f) false=false:=by
      rw[qi,P3];simp only[ne_eq,eg,eu,fN];exact c
     rw[e];rfl
   ·intro j x v g r;have:=cy Tm.aeb g;rw[mo];simp only[bT,Tm.cq];rw[cX VW VW,o x (f+dB k) VW VW VW VW (hi.2 x g)];simp[de (l:=v) (m:=[x.up (f+dB k) (-1)]) (by simpa using r)]
def B3:∀(n:Nat) (t:Fm) (f:Int),t.aeb<=n->t.aeb<=1000000000->0<=f->f+t.aeb<=10000000000->t.aef 1000000000000=true->fQ n t f (-1)=some (t.up f (-1)):=by
 intro n
 induction n with
 |zero=>intro t f h;have:=t.cw;omega
 |succ n e=>
  intro t f h b g c hi;cases t with
  |mk k s ts l=>
   rw[Fm.bY] at h b c;rw[Fm.dp] at hi;simp only[eg,im] at hi;have o:=Fm.dm l;have i:=Tm.dm ts;have p:=vV k;rw[fQ];simp only[Fm.ck,Fm.eY,Fm.cq,Fm.cQ,cg,ch (l:=l) VW,ch (l:=ts) VW,b9];rw[gZ (Tm.up f (-1)) ts 0 [] aaQ]
   ·simp only[bT,ca];rw[gZ (Fm.up (f+qB k) (-1)) l 0 [] aaQ]
    ·simp[Fm.fD]
    ·intro j x v a d;have:=cy Fm.aeb a;rw[ou];simp only[bT,Fm.cq];rw[cX VW VW,e x (f+qB k) VW VW VW VW (hi.2 x a)];simp[de (l:=v) (m:=[x.up (f+qB k) (-1)]) (by simpa using d)]
   ·intro j x v a d;have:=cy Tm.aeb a;rw[Ju FU x f (by rw[cP];omega) VW g VW (hi.1 x a)];simp[de (l:=v) (m:=[x.up f (-1)]) (by simpa using d)]
def Qe:E3 Tm.z:=by
 show E3 (Tm.mk 0 0 (Ty.mk 0 []) []);intro c b d;have a:FU=999999999+1:=cP;unfold oP mY;rw[a,fl,bV (show¬(cn (Tm.mk 0 0 (Ty.mk 0 []) []).ad' 1=true) by decide)];simp only[Tm.cq,Tm.cQ,Tm.ck,Tm.dQ,cg];rw[jJ aaq,bT,ch aaq,b9];rfl
def rY{f:Fm}(a:f.ok=true)(hn:f.aeb<=50000000)(b:f.aef 1000000000000=true)(c:f.aeh 0=0):il f 0 (Tm.mk 0 0 (Ty.mk 0 []) [])=some (f.up 1 (-1)):=by
 rw[show Tm.mk 0 0 (Ty.mk 0 []) []=Tm.z from rfl,pO a hn b Qe VW VW,Fm.Bf _ f 0 a c];rfl
noncomputable def BM (x:Tm) (e:Int):Tm×Int:=if e=0 then((x.norm 1000 0).1,(x.norm 1000 0).2.2)else(x,e)
def oK{α:Type}(f:α->Int->α×Int):List α->Int->List α×Int
 |[],e=>([],e)|x::l,e=>((f x e).1::(oK f l (f x e).2).1,(oK f l (f x e).2).2)
mutual
noncomputable def Fm.vN:Fm->Int->Fm×Int
 |.mk k s ts l,e=>(.mk k s (oK BM ts e).1 (Fm.MV l (oK BM ts e).2).1,(Fm.MV l (oK BM ts e).2).2)
noncomputable def Fm.MV:List Fm->Int->List Fm×Int
 |[],e=>([],e)|f::l,e=>((f.vN e).1::(Fm.MV l (f.vN e).2).1,(Fm.MV l (f.vN e).2).2)
end
def Fm.Oe:∀(l:List Fm) (e:Int),Fm.MV l e=oK Fm.vN l e
 |[],e=>by rw[Fm.MV,oK]|f::l,e=>by rw[Fm.MV,oK,Fm.Oe l]
def Fm.Cn(k:Int)(s:Ty)(ts:List Tm)(l:List Fm)(e:Int):(Fm.mk k s ts l).vN e=(.mk k s (oK BM ts e).1 (oK Fm.vN l (oK BM ts e).2).1,(oK Fm.vN l (oK BM ts e).2).2):=by rw[Fm.vN,Fm.Oe]
def tc{α:Type}{f:α->Int->α×Int}:∀(l:List α) (e:Int),(∀x∈l,∀e,e≠0->(f x e).2=e)->e≠0->(oK f l e).2=e
 |[],e,_,_=>rfl|x::l,e,h,he=>by
  have a:=h x aas e he;simp only[oK];rw[a];exact tc l e (λy hy=>h y (by simp[hy])) he
def FP{x:Tm}{e:Int}(he:e≠0):(BM x e).2=e:=by unfold BM;rw[bV he]
def Fm.Lm(f:Fm):∀e:Int,e≠0->(f.vN e).2=e:=by
 induction f using Fm.ind with
 |h k s ts l a=>
  intro e he;rw[Fm.Cn];have b:=tc (f:=BM) ts e (λx _ e he=>FP he) he;simp only[];rw[b];exact tc l e a he
def Cu{α ρ:Type}{E:α->Int->Option (α×Int)}{f:α->Int->α×Int}:∀(l:List α) (j:Nat) (v:List α) (e:Int),(∀x∈l,∀e,E x e=some (f x e))->v.length+l.length<=1000000000->cY (λ(k:Int) (c:α)=>(sa λ(v91:List α) (d:Int)=>
   b7 (E c d) λa b=>
   eB (dZ v91 [a])<|some ((.next ((eA v91 [a]),b)):dP ((List α)×Int) ρ))) l j (v,e)=some (.inl (v++(oK f l e).1,(oK f l e).2))
 |[],j,v,e,_,_=>by simp[oK]|x::l,j,v,e,h,m=>by
  simp only[j0] at m;rw[cO];simp only[sa];rw[h x aas e];obtain⟨y,g,i⟩:∃y g,f x e=(y,g):=⟨_,_,rfl⟩;rw[i];rw[bW,de aaQ,b9];simp only[bT,cU];rw[eP];have:=Cu (ρ:=ρ) l (j+1) (v++[y]) g (λz n=>h z (by simp[n])) aaQ;rw[this];simp only[oK,i];simp
structure Nm (x:Tm):Prop where
 err:x.err=0
 aef:x.aef 536870912=true
def Nm.both{x:Tm}(h:Nm x):kM x 1000=some (x.norm 1000 0)/\kz x 1000=some (x.norm 1000 0):=by
 obtain⟨b,hn⟩:=nr h.err;have hw:=x.er b;have a:=wc (t:=x) VW 1000;rw[bX h.err,bX ⟨VW,VW,h.aef⟩] at a;obtain⟨p,m,e,c,d,_⟩:=yb (t:=x) VW 1000;have a:kM x 1000=some (x.norm 1000 0):=a;refine⟨a,?_⟩;rw[d,<-c,a]
def zx{x:Tm}(h:Nm x)(b e:Int):kS x b e=some (BM x e):=by
 unfold kS BM
 by_cases he:e=0
 ·rw[bX he,bV (by rw[cf];simpa using he),h.both.1];rfl
 ·rw[bV he,bX (by rw[cf];exact he)]
inductive P7:Fm->Prop
 |mk {k s ts l}:(∀x∈ts,Nm x)->(∀f∈l,P7 f)->P7 (.mk k s ts l)
def P7.of(f:Fm):f.aeb<=4096->f.ok=true->f.aef 536870912=true->P7 f:=by
 induction f using Fm.ind with
 |h k s ts l d=>
  intro hn e b;obtain⟨_,g,i⟩:=Fm.m_ e;rw[Fm.bY] at hn;rw[Fm.dp,eg,im,im] at b;refine .mk (λx c=>⟨?_,b.1 x c⟩) (λf a=>?_)
  ·have:=cy Tm.aeb c;unfold Tm.err;rw[bX (g x c),bV VW]
  ·have:=cy Fm.aeb a;exact d f a VW (i f a) (b.2 f a)
def Lk:∀(n:Nat) (f:Fm) (b e:Int),f.aeb<=n->f.aeb<=1000000->f.ok=true->P7 f->cN n f b (λ(s:Int) (c:Tm) (d:Int)=>kS c d s) e=some (f.vN e):=by
 intro n
 induction n with
 |zero=>intro f b e h;have:=f.cw;omega
 |succ n m=>
  intro f b e hn o p hm;cases f with
  |mk k s ts l=>
   cases hm with
   |mk q r=>
    rw[Fm.bY] at hn o;have u:=eV Tm.aeb ts λt _=>t.cw;have v:=eV Fm.aeb l λt _=>t.cw;obtain⟨w,z,g⟩:=Fm.m_ p;rw[cN,Fm.Cn];simp only[Fm.cQ,Fm.ck,Fm.cq,Fm.eY,cg];rw[jJ VW,bT,ch VW,b9];rw[Cu (E:=λy s=>kS y b s) (f:=BM) ts 0 [] e (λx a e=>zx (q x a) b e) aaQ,bT];simp only[ca,sa,m6];rw[jw,bT]
    have loop:=λi=>Cu (ρ:=Fm×Int) (E:=λy s=>cN n y i (λ(s:Int) (c:Tm) (d:Int)=>kS c d s) s) (f:=Fm.vN) l 0 [] (oK BM ts e).2 (λx a e=>by
     have:=cy Fm.aeb a
     exact m x i e VW VW (g x a) (r x a)) aaQ
    by_cases j:hI k=true
    ·rw[bX j,ch VW,b9,loop,bT];simp
    ·rw[bV j,ch VW,b9,loop,bT];simp
def Es:∀(n:Nat) (f:Fm),f.aeb<=n->f.aeb<=1000000->P7 f->lB n f=some (if(f.vN 0).2=0 then((f.vN 0).1,0)else(eI,(f.vN 0).2)):=by
 intro n
 induction n with
 |zero=>intro f h;have:=f.cw;omega
 |succ n H=>
  intro f hn I hm;cases f with
  |mk k s ts l=>
   cases hm with
   |mk J K=>
    rw[Fm.bY] at hn I;have L:=eV Tm.aeb ts λt _=>t.cw;have M:=eV Fm.aeb l λt _=>t.cw;rw[lB,Fm.Cn];simp only[Fm.cQ,Fm.ck,Fm.cq,Fm.eY,cg];rw[ch VW,b9]
    have p:∀(us:List Tm) (j:Nat) (v:List Tm),(∀t∈us,Nm t)->v.length+us.length<=1000000000->cY (λ(N:Int) (B:Tm)=>(λ(w:List Tm)=>
       hU (kz B 1000) λc E d=>
       if(cF d 0) then(
       some (.ret ((Fm.mk 0 (Ty.mk 0 []) [] []),d)))
       else(eB (dZ w [c])<|some ((.next (eA w [c])):dP (List Tm) (Fm×Int))))) us j v=some (if(oK BM us 0).2=0 then .inl (v++(oK BM us 0).1)else .inr (eI,(oK BM us 0).2)):=by
     intro us
     induction us with
     |nil=>intro j v _ _;simp[oK]|cons t us q=>
      intro j v hm C;simp only[j0] at C;rw[cO,(hm t aas).both.2]
      have D:BM t 0=((t.norm 1000 0).1,(t.norm 1000 0).2.2):=by unfold BM;rw[bX rfl]
      obtain⟨y,m,a,z⟩:∃y m a,t.norm 1000 0=(y,m,a):=⟨_,_,_,rfl⟩;rw[z] at D|-;rw[na]
      by_cases he:a=0
      ·subst he;rw[bV aaq,de aaQ,b9];simp only[bT,cU];rw[eP,q (j+1) (v++[y]) (λu hu=>hm u (by simp[hu])) aaQ];simp only[oK,D];simp
      ·rw[bX (by rw[cf];exact he)];simp only[oK,D];rw[tc (f:=BM) us a (λx _ e he=>FP he) he,bV he];rfl
    have r:∀(us:List Fm) (j:Nat) (v:List Fm),(∀t∈us,P7 t/\t.aeb<=n/\t.aeb<=1000000)->v.length+us.length<=1000000000->cY (λ(F:Int) (A:Fm)=>(λ(g:List Fm)=>
       b7 (lB n A) λi o=>
       if(cF o 0) then(
       some (.ret ((Fm.mk 0 (Ty.mk 0 []) [] []),o)))
       else(eB (dZ g [i])<|some ((.next (eA g [i])):dP (List Fm) (Fm×Int))))) us j v=some (if(oK Fm.vN us 0).2=0 then .inl (v++(oK Fm.vN us 0).1)else .inr (eI,(oK Fm.vN us 0).2)):=by
     intro us
     induction us with
     |nil=>intro j v _ _;simp[oK]|cons t us q=>
      intro j v hm C;simp only[j0] at C;obtain⟨a1,a2,a3⟩:=hm t aas;rw[cO,H t a2 a3 a1];obtain⟨y,a,z⟩:∃y a,t.vN 0=(y,a):=⟨_,_,rfl⟩;rw[z]
      by_cases he:a=0
      ·subst he;simp only[if_true];rw[bW,bV aaq,de aaQ,b9];simp only[bT,cU];rw[eP,q (j+1) (v++[y]) (λu hu=>hm u (by simp[hu])) aaQ];simp only[oK,z];simp
      ·simp only[bV he];rw[bW,bX (by rw[cf];exact he)];simp only[oK,z];rw[tc (f:=Fm.vN) us a (λx _ e he=>Fm.Lm x e he) he,bV he];rfl
    rw[p ts 0 [] J aaQ,bT]
    by_cases he:(oK BM ts 0).2=0
    ·rw[bX he,ca,ch VW,b9,r l 0 [] (λt G=>by
      have:=cy Fm.aeb G
      exact⟨K t G,VW,VW⟩) aaQ,bT,he]
     by_cases b:(oK Fm.vN l 0).2=0
     ·rw[bX b,bX b,ca,m6,m6]
     ·rw[bV b,bV b,qm]
    ·rw[bV he,qm,tc (f:=Fm.vN) l _ (λx _ e he=>Fm.Lm x e he) he,bV he]
def Ty.aa5:∀(n:Nat) (s:Ty),s.aeb<=n->s.err=0->∃a,cJ [] a s:=by
 intro n
 induction n with
 |zero=>intro s h;have:=s.cw;omega
 |succ n c=>
  intro s hn he;rcases Ty.pH he with rfl|rfl|rfl|⟨a,b,rfl,e,d⟩|⟨a,b,rfl,e,d⟩
  ·exact⟨_,.zero⟩
  ·exact⟨_,.nil⟩
  ·exact⟨_,.unit⟩
  ·rw[Ty.tn] at hn;obtain⟨x,f⟩:=c a VW e;obtain⟨y,hy⟩:=c b VW d;exact⟨_,.pair he f hy⟩
  ·rw[Ty.ie] at hn;obtain⟨y,hy⟩:=c b VW d;exact⟨_,.lam he (by have:=hy.front [a];simpa using this)⟩
def fg.down{g:List Ty}{s:Ty}{f:Fm}(h:fg (g++[s]) f)(hs:s.err=0)(c:f.aeh 0=0):fg g (f.up 1 (-1)):=by
 obtain⟨a,d⟩:=Ty.aa5 _ s (fT _) hs
 have b:cJ g a s:=by simpa using d.front g
 have:=h.put b
 rwa [Fm.Bf a f 0 h.ok c] at this
def cJ.nm{g:List Ty}{x:Tm}{t:Ty}(h:cJ g x t)(hg:g.length<=1000000)(a:x.aeb<=4096):Nm x:=by
 refine⟨?_,h.aef _ VW⟩;unfold Tm.err;rw[bX h.ok,bV VW]
def S2{g:List Ty}{x:Tm}{t:Ty}(h:cJ g x t)(hg:g.length<=1000000)(b:x.aeb<=4096){e:Int}(he:(BM x e).2=0):e=0/\cJ g (BM x e).1 t/\(BM x e).1.aeb<=4096:=by
 by_cases c:e=0
 ·subst c;unfold BM at he|-;simp only[if_true] at he|-;obtain⟨a,n,f,d⟩:∃a n f,x.norm 1000 0=(a,n,f):=⟨_,_,_,rfl⟩;rw[d] at he|-;simp only[] at he|-;subst he;exact⟨trivial,cJ.norm _ _ _ _ _ h d,(EG 1000 536870912 0 x a n VW (Sm.start (h.nm hg b).err (h.nm hg b).aef) b d).2⟩
 ·rw[FP c] at he;exact absurd he c
def TX(a b:Tm)(e:Int):(Fm.mk 1 .z [a,b] []).vN e=(.mk 1 .z [(BM a e).1,(BM b (BM a e).2).1] [],(BM b (BM a e).2).2):=by rw[Fm.Cn];rfl
def TO(k:Int)(a b:Fm)(e:Int):(Fm.mk k .z [] [a,b]).vN e=(.mk k .z [] [(a.vN e).1,(b.vN (a.vN e).2).1],(b.vN (a.vN e).2).2):=by rw[Fm.Cn];rfl
def abu(k:Int)(s:Ty)(a:Fm)(e:Int):(Fm.mk k s [] [a]).vN e=(.mk k s [] [(a.vN e).1],(a.vN e).2):=by rw[Fm.Cn];rfl
def NJ{g:List Ty}{f:Fm}(h:fg g f):∀(e:Int),g.length+f.aeb<=1000000->f.aeb<=4096->(f.vN e).2=0->e=0/\fg g (f.vN e).1/\(f.vN e).1.aeb<=3000*f.aeb:=by
 induction h with
 |@eq g a b c n=>
  intro e hg hn he;rw[TX] at he|-;rw[Fm.bY] at hn hg|-;simp only[cm] at hn hg|-;obtain⟨d,i,o⟩:=S2 n VW VW he;obtain⟨a1,a2,a3⟩:=S2 c VW VW d;refine⟨a1,.eq a2 i,?_⟩;rw[Fm.bY];simp only[cm];have:=a.cw;have:=b.cw;omega
 |@two g k a b j c n l m=>
  intro e hg hn he;rw[TO] at he|-;rw[Fm.bY] at hn hg|-;simp only[cm] at hn hg|-;obtain⟨d,i,o⟩:=m _ VW VW he;obtain⟨a1,a2,a3⟩:=l _ VW VW d;refine⟨a1,.two j a2 i,?_⟩;rw[Fm.bY];simp only[cm];omega
 |@q g k s a j hs c p=>
  intro e hg hn he;rw[abu] at he|-;rw[Fm.bY] at hn hg|-;simp only[cm] at hn hg|-;obtain⟨a1,a2,a3⟩:=p _ aaQ VW he;refine⟨a1,.q j hs a2,?_⟩;rw[Fm.bY];simp only[cm];omega
noncomputable def Bc (f:Fm):Fm×Int:=if f.aeh 0=0 then(f.up 1 (-1),0)else if(f.vN 0).2≠0 then(eI,(f.vN 0).2)else if(f.vN 0).1.aeh 0≠0 then(eI,6)else((f.vN 0).1.up 1 (-1),0)
def Jq{g:List Ty}{s:Ty}{f:Fm}(h:Hg (g++[s]) f)(hg:g.length<=1000)(hs:s.err=0)(a:(Bc f).2=0):fg g (Bc f).1/\(Bc f).1.aeb<=3000*4096:=by
 have hn:=h.aeb;unfold Bc at a|-
 split
 ·rename_i c;refine⟨h.ty.down hs c,?_⟩;show(f.up 1 (-1)).aeb<=_;rw[Fm.lS];omega
 ·rename_i c;rw[bV c] at a
  split
  ·rename_i b;rw[bX b] at a;exact absurd a b
  ·rename_i b;rw[bV b] at a
   split
   ·rename_i d;rw[bX d] at a;cases a
   ·rename_i d;obtain⟨_,a2,a3⟩:=NJ h.ty 0 aaQ hn (vd.1 b);refine⟨a2.down hs VW,?_⟩;show((f.vN 0).1.up 1 (-1)).aeb<=_;rw[Fm.lS];omega
def uK{g:List Ty}{s:Ty}{f:Fm}(h:Hg (g++[s]) f)(hg:g.length<=1000):oh f=some (Bc f):=by
 have hn:=h.aeb;have k:f.aef 1000000000000=true:=h.ty.aef _ aaQ;unfold oh Bc;rw[lu h.ok VW k VW VW,bT]
 by_cases d:f.aeh 0=0
 ·rw[bX d,bX (by rw[eu];omega),rY h.ok VW k d];rfl
 ·rw[bV d,bV (by rw[eu];omega),Lk FU f 0 0 (by rw[cP];omega) VW h.ok (P7.of f hn h.ok (h.ty.aef _ aaQ))];obtain⟨a,e,i⟩:∃a e,f.vN 0=(a,e):=⟨_,_,rfl⟩;rw[i,bW];simp only[]
  by_cases he:e=0
  ·subst he;rw[bV aaq,bV aaq];have b:=NJ h.ty 0 aaQ hn (by rw[i]);rw[i] at b;obtain⟨_,a2,a3⟩:=b;have a2:fg (g++[s]) a:=a2;have a3:a.aeb<=3000*f.aeb:=a3;have c:a.aef 1000000000000=true:=a2.aef _ aaQ;rw[lu a2.ok VW c VW VW,bT]
   by_cases j:a.aeh 0=0
   ·rw[bV (by rw[eE];omega),bV (by simpa using j),rY a2.ok VW c j];rfl
   ·rw[bX (by rw[eE];omega),bX j];rfl
  ·rw[bX (by rw[cf];exact he),bX he];rfl
abbrev PR:=(Fm×Nat)⊕Int
def pbind(r:PR)(k:Fm->Nat->PR):PR:=match r with|.inl p=>k p.1 p.2|.inr e=>.inr e
def uk(c:Prop)[Decidable c](e:Int)(r:PR):PR:=if c then .inr e else r
theorem iP{c:Prop}[Decidable c]{e:Int}{r:PR}(h:c):uk c e r=.inr e:=bX h
theorem jn{c:Prop}[Decidable c]{e:Int}{r:PR}(h:¬c):uk c e r=r:=bV h
def jk(e:Int)(r:PR):PR:=if e=0 then r else .inr e
@[simp] theorem dS(f:Fm)(m:Nat)(k:Fm->Nat->PR):pbind (.inl (f,m)) k=k f m:=rfl
@[simp] theorem Z8(e:Int)(k:Fm->Nat->PR):pbind (.inr e) k=.inr e:=rfl
theorem eU{e:Int}{r:PR}(h:e=0):jk e r=r:=bX h
theorem gG{e:Int}{r:PR}(h:e≠0):jk e r=.inr e:=bV h
noncomputable def yr (r:PR):PR:=pbind r λf m=>if f.err=0 then .inl (f,if f.has then m else 0)else .inr 4
def Ca(r:PR)(k:Int):PR:=pbind r λf m=>if f.ad'=k then .inl (f,m)else .inr 10
noncomputable def vF (a b:Fm):Int:=(jF a b).getD 0
noncomputable def B9 (r:PR) (F:Fm) (t:Tm):PR:=pbind r λf m=>jk (k4 F t).2 (jk (vF (k4 F t).1 f) (.inl (f,m)))
def IB(t:Tm):Nat->Nat
 |0=>0|j+1=>if 0<t.aeh j then IB t j|||2^j else IB t j
def pX(t:Tm):Nat:=IB t 32
def Iz(t:Tm):∀(n i:Nat),(IB t n).testBit i=true↔i<n/\0<t.aeh i
 |0,i=>by simp[IB]|n+1,i=>by
  have c:=Iz t n i;rw[IB]
  by_cases h:0<t.aeh n
  ·rw[bX h,We,o0,c,Uz];simp only[m0];constructor
   ·rintro(⟨a,b⟩|rfl)
    ·exact⟨VW,b⟩
    ·exact⟨VW,h⟩
   ·rintro⟨a,b⟩
    by_cases hi:n=i
    ·exact .inr hi
    ·exact .inl ⟨VW,b⟩
  ·rw[bV h,c];constructor
   ·rintro⟨a,b⟩;exact⟨VW,b⟩
   ·rintro⟨a,b⟩;refine⟨?_,b⟩;rcases sA i n with hh|hh
    ·exact hh
    ·obtain rfl:i=n:=VW
     exact absurd b h
def P4(t:Tm)(i:Nat):(pX t).testBit i=true↔i<32/\0<t.aeh i:=Iz t 32 i
def v0:Tm:=.mk 1 0 (.mk 0 []) []
def v1:Tm:=.mk 1 1 (.mk 0 []) []
noncomputable def ov (L:List Fm) (k i:Int) (s:Ty) (ts:List Tm) (fs:List Fm) (sub:Nat->List Ty->List Fm->PR) (g:List Ty) (hs:List Fm):PR:=
 let t:=ts.getD 0 Tm.z
 let F:=fs.getD 0 eI
 if k=1 then uk ((hs.length:Int)<=i) 8 (.inl (hs.getD (hs.length-1-i.toNat) eI,0))
 else if k=2 then uk ((L.length:Int)<=i) 9 (.inl (L.getD i.toNat eI,0))
 else if k=3 then pbind (sub 0 g hs) λa m=>pbind (sub 1 g hs) λb n=>.inl (.mk 2 .z [] [a,b],m|||n)
 else if k=4 then pbind (Ca (sub 0 g hs) 2) λa m=>.inl (a.aea.getD 0 eI,m)
 else if k=5 then pbind (Ca (sub 0 g hs) 2) λa m=>.inl (a.aea.getD 1 eI,m)
 else if k=6 then jk (F.ti g) (uk (16<hs.length+1) 3 (pbind (sub 0 g (hs++[F])) λb m=>.inl (.mk 3 .z [] [F,b],m)))
 else if k=7 then pbind (Ca (sub 0 g hs) 3) λa m=>pbind (sub 1 g hs) λb n=>jk (vF (a.aea.getD 0 eI) b) (.inl (a.aea.getD 1 eI,m|||n))
 else if k=8 then uk (16<g.length+1) 3 (pbind (sub 0 (g++[s]) (hs.map (Fm.up 0 1))) λb m=>.inl (.mk 4 s [] [b],m/2))
 else if k=12 then uk (16<g.length+1) 3 (pbind (sub 0 (g++[s]) (hs.map (Fm.up 0 1))) λb m=>uk (m.testBit 0=true) 12 (.inl (.mk 6 s [] [b],m/2)))
 else if k=9 then jk (t.ty g).2 (pbind (Ca (sub 0 g hs) 4) λa m=>uk ((t.ty g).1.jc a.b8=false) 7 (jk (k4 (a.aea.getD 0 eI) t).2 (.inl ((k4 (a.aea.getD 0 eI) t).1,m|||pX t))))
 else if k=13 then jk (t.ty g).2 (pbind (Ca (sub 0 g hs) 6) λa m=>uk ((t.ty g).1.jc a.b8=false) 7 (jk (k4 (a.aea.getD 0 eI) t).2 (.inl ((k4 (a.aea.getD 0 eI) t).1,m))))
 else if k=10 then jk (F.ti g) (uk (F.ad'≠5) 10 (jk (t.ty g).2 (uk ((t.ty g).1.jc F.b8=false) 7 (pbind (B9 (sub 0 g hs) (F.aea.getD 0 eI) t) λ_ m=>.inl (F,m|||pX t)))))
 else if k=14 then jk (F.ti g) (uk (F.ad'≠7) 10 (jk (t.ty g).2 (uk ((t.ty g).1.jc F.b8=false) 7 (pbind (B9 (sub 0 g hs) (F.aea.getD 0 eI) t) λ_ m=>.inl (F,m)))))
 else if k=11 then pbind (Ca (sub 0 g hs) 5) λa m=>uk (16<g.length+1\/16<hs.length+1) 3 (pbind (sub 1 (g++[a.b8]) (hs.map (Fm.up 0 1)++[a.aea.getD 0 eI])) λb n=>jk (Bc b).2 (.inl ((Bc b).1,m|||n/2)))
 else if k=15 then pbind (Ca (sub 0 g hs) 7) λa m=>uk (16<g.length+1\/16<hs.length+1) 3 (pbind (sub 1 (g++[a.b8]) (hs.map (Fm.up 0 1)++[a.aea.getD 0 eI])) λb n=>jk (Bc b).2 (uk (n.testBit 0=true) 12 (.inl ((Bc b).1,m|||n/2))))
 else if k=16 then jk (F.ti (g++[.nat])) (jk (mT t g 1) (pbind (B9 (sub 0 g hs) F gv) λ_ m=>uk (16<g.length+1\/16<hs.length+1) 3 (
  pbind (B9 (sub 1 (g++[.nat]) (hs.map (Fm.up 0 1)++[F])) (F.up 1 1) (nE v0)) λ_ n=>jk (k4 F t).2 (.inl ((k4 F t).1,(pX t|||m)|||n/2)))))
 else if k=17 then jk (F.ti (g++[.lV])) (jk (mT t g 2) (pbind (B9 (sub 0 g hs) F (.mk 7 0 .z [])) λ_ m=>uk (16<g.length+2\/16<hs.length+1) 3 (
  pbind (B9 (sub 1 (g++[.nat]++[.lV]) (hs.map (Fm.up 0 2)++[F.up 1 1])) (F.up 1 2) (.mk 8 0 .z [v1,v0])) λ_ n=>jk (k4 F t).2 (.inl ((k4 F t).1,(pX t|||m)|||n/4)))))
 else if k=18 then jk (mT t g 1) (.inl (.mk 1 .z [t,t] [],0))
 else if k=19 then jk (F.ti (g++[.nat])) (pbind (Ca (sub 0 g hs) 1) λa _=>pbind (B9 (sub 1 g hs) F (a.cx.getD 0 Tm.z)) λ_ n=>jk (k4 F (a.cx.getD 1 Tm.z)).2 (.inl ((k4 F (a.cx.getD 1 Tm.z)).1,n)))
 else pbind (Ca (sub 0 g hs) 4) λa m=>uk ((a.aea.getD 0 eI).ad'≠5) 10 (uk ((Ty.fn a.b8 (a.aea.getD 0 eI).b8).err≠0) 4 (uk ((k4 (((a.aea.getD 0 eI).aea.getD 0 eI).up 2 1) (qW v1 v0)).2≠0) 4 (.inl (.mk 5 (Ty.fn a.b8 (a.aea.getD 0 eI).b8) [] [.mk 4 a.b8 [] [(k4 (((a.aea.getD 0 eI).aea.getD 0 eI).up 2 1) (qW v1 v0)).1]],m))))
mutual
noncomputable def Pf.inf (L:List Fm):Pf->List Ty->List Fm->PR
 |.mk k i s ts fs l,g,hs=>yr (ov L k i s ts fs (Pf.sN L l) g hs)
noncomputable def Pf.sN (L:List Fm):List Pf->Nat->List Ty->List Fm->PR
 |[],_,_,_=>.inr 2|p::_,0,g,hs=>p.inf L g hs|_::l,n+1,g,hs=>Pf.sN L l n g hs
end
def IRs(g:List Ty)(s:PR)(k:Option (b0×Int))(r:Option (s9×Int)):Prop:=
 (∃e,e≠0/\s=.inr e/\k=some (⟨eI,0⟩,e)/\r=some (⟨eI,[]⟩,e))\/∃(f:Fm) (m:Nat) (l:List Int),s=.inl (f,m)/\k=some (⟨f,(m:Int)⟩,0)/\r=some (⟨f,l⟩,0)/\Us l m/\Hg g f
def kl(g:List Ty)(s:PR)(k:Option (b0×Int))(r:Option (Fm×List Int×Int)):Prop:=
 (∃e x f l,e≠0/\s=.inr e/\k=some (x,e)/\r=some (f,l,e))\/∃(f:Fm) (m:Nat) (l:List Int),s=.inl (f,m)/\k=some (⟨f,(m:Int)⟩,0)/\r=some (f,l,0)/\Us l m/\fg g f/\f.aeb<=15000000
theorem kl.no{g:List Ty}{s:PR}{k:Option (b0×Int)}{r:Option (Fm×List Int×Int)}{e:Int}{x:b0}{f:Fm}{l:List Int}(he:e≠0)(a:s=.inr e)(b:k=some (x,e))(c:r=some (f,l,e)):kl g s k r:=.inl ⟨e,x,f,l,he,a,b,c⟩
def kl.yes{g:List Ty}{s:PR}{k:Option (b0×Int)}{r:Option (Fm×List Int×Int)}{f:Fm}{m:Nat}{l:List Int}(a:s=.inl (f,m))(b:k=some (⟨f,(m:Int)⟩,0))(c:r=some (f,l,0))(d:Us l m)(e:fg g f)(h:f.aeb<=15000000):kl g s k r:=.inr ⟨f,m,l,a,b,c,d,e,h⟩
def kl.infer{g:List Ty}(hg:g.length<=16){s:PR}{k:Option (b0×Int)}{r:Option (Fm×List Int×Int)}(h:kl g s k r):IRs g (yr s) (Jf k) (Jl r):=by
 rcases h with⟨e,x,f,l,he,rfl,rfl,rfl⟩|⟨f,m,l,rfl,rfl,rfl,hu,b,hn⟩
 ·refine .inl ⟨e,he,rfl,?_,?_⟩
  ·unfold Jf;rw[bW,bX (by rw[cf];exact he)];rfl
  ·unfold Jl;rw[na,bX (by rw[cf];exact he)];rfl
 ·have c:=b.ok;have hw:=f.er c;have i:=b.aef 1000000000000 VW;have d:yr (.inl (f,m))=if f.err=0 then .inl (f,if f.has then m else 0)else .inr 4:=rfl;unfold Jf Jl;rw[bW,na];simp only[cg];rw[bV aaq,bV aaq,fh VW,iU VW,bT,bT]
  by_cases a:f.err=0
  ·rw[bV (by rw[cf];simp[a]),bV (by rw[cf];simp[a]),Cl VW i,CZ _ VW,d,bX a];rw[bV (show¬(f.err≠0) by simpa using a),bW,bW];cases f.has with
   |true=>exact .inr ⟨f,m,l,rfl,rfl,rfl,hu,⟨a,b⟩⟩|false=>exact .inr ⟨f,0,[],rfl,rfl,rfl,.nil,⟨a,b⟩⟩
  ·rw[bX (by rw[cf];exact a),bX (by rw[cf];exact a),d,bV a];exact .inl ⟨4,aaq,rfl,rfl,rfl⟩
def gV(L:List Fm)(P:Pf)(N:Nat):Prop:=∀n n',N<=n->N<=n'->∀p c,PG L p c->IRs c.aed (P.inf L c.aed c.aeg) (cT n L P p) (cA n' c P)
def Gu{f:Fm}{m:Nat}{k:Int}(h:f.ad'=k):Ca (.inl (f,m)) k=.inl (f,m):=by grind[Ca,dS]
def acK{f:Fm}{m:Nat}{k:Int}(h:f.ad'≠k):Ca (.inl (f,m)) k=.inr 10:=by grind[Ca,dS]
def lG{g:List Ty}{s:PR}{n:Nat}{L:List Fm}{P:Pf}{p:cp}{r:Option (s9×Int)}(h:IRs g s (cT n L P p) r)(k:Int):(∃e,e≠0/\Ca s k=.inr e/\cW (n+1) L P p k=some (⟨eI,0⟩,e)/\((r=some (⟨eI,[]⟩,e))\/∃f l m,r=some (⟨f,l⟩,0)/\f.ad'≠k/\e=10/\Us l m))\/∃(f:Fm) (m:Nat) (l:List Int),Ca s k=.inl (f,m)/\cW (n+1) L P p k=some (⟨f,(m:Int)⟩,0)/\r=some (⟨f,l⟩,0)/\Us l m/\Hg g f/\f.ad'=k:=by
 rcases h with⟨e,he,a,d,b⟩|⟨f,m,l,a,d,b,hu,i⟩
 ·refine .inl ⟨e,he,by rw[a];rfl,?_,.inl b⟩
  grind[cW,bW,qi,eu]
 ·by_cases c:f.ad'=k
  ·grind[Ca,dS,cW,bW,qi,cf]
  ·refine .inl ⟨10,aaq,by rw[a];unfold Ca;rw[dS,bV c],?_,.inr ⟨f,l,m,b,c,rfl,hu⟩⟩;rw[cW,d,bW,bX (by rw[qi,eg,cf,eu];exact⟨rfl,c⟩)];rfl
def JC{a b:Fm}(d:a.wt<=1000000000)(e:b.wt<=1000000000):jF a b=some (vF a b)/\kI a b=some (vF a b):=by
 obtain⟨c,f,g⟩:=AR d e
 have:vF a b=c:=by unfold vF;rw[f];rfl
 grind
structure qY (g:List Ty) (F:Fm) (t:Tm):Prop where
 fe:F.err=0
 te:t.err=0
 ty:∃s,fg (g++[s]) F/\cJ g t s
def qY.put{g:List Ty}{F:Fm}{t:Tm}(h:qY g F t):fg g (Fm.eG 0 F t):=by
 obtain⟨s,a,b⟩:=h.ty;exact a.put b
def qY.both{g:List Ty}{F:Fm}{t:Tm}(h:qY g F t)(hg:g.length<=100):hE F t=some (k4 F t)/\hZ F t=some (k4 F t):=by
 obtain⟨s,c,d⟩:=h.ty;obtain⟨_,a2⟩:=Fm.d_ h.fe;obtain⟨_,e⟩:=Tm.d_ h.te;have a:F.aef 536870912=true:=c.aef _ aaQ;have b:t.aef 536870912=true:=d.aef _ VW;refine⟨Ha h.fe h.te (Fm.gT F VW a) (Tm.gT t VW b),?_⟩;unfold hZ;rw[Gs h.fe h.te a b h.put.ok];rfl
theorem kZ(F:Fm)(t:Tm):k4 F t=(eI,4)\/(Fm.eG 0 F t).aeb<=4096/\k4 F t=(Fm.eG 0 F t,0):=by
 unfold k4
 split
 ·exact .inl rfl
 ·grind
def rb{g:List Ty}(hg:g.length<=16){s:PR}{n n':Nat}{L:List Fm}{P:Pf}{p:cp}{c:bZ}(h:IRs g s (cT n L P p) (cA n' c P)){F:Fm}{t:Tm}(q:qY g F t):(∃e x l m,e≠0/\B9 s F t=.inr e/\c6 (n+1) L P p F t=some (x,e)/\dc (n'+1) c P F t=some (l,e)/\Us l m)\/∃(f:Fm) (m:Nat) (l:List Int),B9 s F t=.inl (f,m)/\c6 (n+1) L P p F t=some (⟨f,(m:Int)⟩,0)/\dc (n'+1) c P F t=some (l,0)/\Us l m:=by
 obtain⟨i,k2⟩:=q.both VW;rcases h with⟨e,he,j,k,o⟩|⟨f,m,l,j,k,o,hu,r⟩
 ·refine .inl ⟨e,⟨eI,0⟩,[],0,he,by rw[j];rfl,?_,?_,.nil⟩
  ·rw[c6,k,bW,bX (by rw[cf];exact he)];rfl
  ·rw[dc,o,bW,bX (by rw[cf];exact he)]
 ·rcases kZ F t with d|⟨hn,d⟩
  ·rw[d] at i k2;refine .inl ⟨4,⟨eI,0⟩,[],0,aaq,?_,?_,?_,.nil⟩
   ·rw[j];unfold B9;rw[dS,d];rfl
   ·rw[c6,k,bW,bV aaq,i,bW,bX aaq];rfl
   ·rw[dc,o,bW,bV aaq,k2,bW,bX aaq]
  ·rw[d] at i k2;have B:=Fm.er _ q.put.ok;have C:=Fm.er _ r.ok;have u:=r.aeb;obtain⟨v,w⟩:=JC (a:=Fm.eG 0 F t) (b:=f) VW VW
   have y:B9 s F t=jk (vF (Fm.eG 0 F t) f) (.inl (f,m)):=by rw[j];unfold B9;rw[dS,d,eU rfl]
   have z:c6 (n+1) L P p F t=some (⟨f,(m:Int)⟩,vF (Fm.eG 0 F t) f):=by
    rw[c6,k,bW,bV aaq,i,bW,bV aaq,v,bT]
   have A:dc (n'+1) c P F t=some (l,vF (Fm.eG 0 F t) f):=by
    rw[dc,o,bW,bV aaq,k2,bW,bV aaq,w,bT]
   rw[y,z,A]
   by_cases hm:vF (Fm.eG 0 F t) f=0
   ·rw[eU hm,hm];exact .inr ⟨f,m,l,rfl,rfl,rfl,hu⟩
   ·rw[gG hm];exact .inl ⟨_,_,_,m,hm,rfl,rfl,rfl,hu⟩
theorem zo{g:List Ty}(h:gd g)(hg:g.length<=16):uZ g=0:=by
 unfold uZ;rw[bV VW]
 induction g with
 |nil=>rfl|cons s g a=>
  have b:=h s aas;simp only[k_,dq];rw[bX b];exact a (λx c=>h x (by simp[c])) (by simp at hg;omega)
def rF{g:List Ty}(a:gd g)(hg:g.length<=17){F:Fm}(hF:F.err=0):cR FU (g.map ra) F=some (F.ti g)/\jd g F=some (F.ti g)/\(g.length<=16->hW g F=some (F.ti g)):=by
 obtain⟨a1,a2⟩:=Fm.d_ hF;have hw:=F.er a1;refine⟨uI F a1 FU (by rw[cP];omega) g a VW a2,?_,λb=>?_⟩
 ·unfold jd;rw[iU VW,hF,bT,bV aaq,xX F a1 FU (by rw[cP];omega) g a VW a2];rfl
 ·rw[qG VW VW (λt c=>by have:=dd (a t c);omega)];unfold DG
  grind[zo]
def lR{g:List Ty}(a:gd g)(hg:g.length<=16){t:Tm}(b:t.err=0):cS FU (g.map ra) t=some (G6 (t.ty g))/\iK g t=some (t.ty g):=by
 obtain⟨a1,a2⟩:=Tm.d_ b;refine⟨vr a1 a VW,?_⟩;unfold iK;rw[rE g VW (λt b=>by have:=dd (a t b);omega),zo a hg,yy a1 a2 a VW];rfl
def has_both{g:List Ty}(b:gd g)(hg:g.length<=16){c:bZ}(a:c.aed=g){t:Tm}(d:t.err=0)(k:Int):iw (g.map ra) t k=some (mT t g k)/\fp c t k=some (mT t g k):=by
 obtain⟨a1,a2⟩:=Tm.d_ d;refine⟨zN k a1 b VW,?_⟩;unfold fp mT;rw[a,(lR b hg d).2]
 grind[bW,cf]
def vC{g:List Ty}(hg:g.length<=16){t:Tm}{s:Ty}(h:cJ g t s)(b:t.err=0):∃l,jS t=some (pX t:Int)/\iQ t=some l/\Us l (pX t):=by
 obtain⟨a1,a2⟩:=Tm.d_ b;have a:∀j:Int,32<=j->t.aeh j=0:=λj e=>h.N8 j VW;obtain⟨l,m,f,k,c,d⟩:=Ue b (h.aef _ VW) a
 have:m=pX t:=by
  refine aaU λi=>?_;rw[A_,<-c.mem i,d,P4]
  grind
 grind
def nz:¬cF 0 0=true:=aaq
def oU(n:Nat)(a0:List Fm)(a1:Pf)(a2:cp):Option (b0×Int):=
 if cn a1.ad' 1 then uj a0 a1 a2 else(if cn a1.ad' 2 then sb a0 a1 a2 else(if cn a1.ad' 3 then mb n a0 a1 a2 else(if cn a1.ad' 4 then gK n a0 a1 a2 else(if cn a1.ad' 5 then gK n a0 a1 a2 else(if cn a1.ad' 6 then l9 n a0 a1 a2 else(if cn a1.ad' 7 then l_ n a0 a1 a2 else(if cn a1.ad' 8 then gr n a0 a1 a2 else(if cn a1.ad' 12 then gr n a0 a1 a2 else(if cn a1.ad' 9 then gp n a0 a1 a2 else(if cn a1.ad' 13 then gp n a0 a1 a2 else(if cn a1.ad' 10 then gN n a0 a1 a2 else(if cn a1.ad' 14 then gN n a0 a1 a2 else(if cn a1.ad' 11 then gR n a0 a1 a2 else(if cn a1.ad' 15 then gR n a0 a1 a2 else(if cn a1.ad' 16 then mR n a0 a1 a2 else(if cn a1.ad' 17 then mR n a0 a1 a2 else(if cn a1.ad' 18 then sF a0 a1 a2 else(if cn a1.ad' 19 then ly n a0 a1 a2 else(if cn a1.ad' 20 then nD n a0 a1 a2 else none)))))))))))))))))))
def acI(n:Nat)(L:List Fm)(P:Pf)(p:cp):cT (n+1) L P p=Jf (oU n L P p):=by rw[cT];rfl
def acG(n:Nat)(c:bZ)(P:Pf):cA (n+1) c P=Jl (cu n c P):=by rw[cA];rfl
def Pf.iy(L:List Fm)(k i:Int)(s:Ty)(ts:List Tm)(fs:List Fm)(l:List Pf)(g:List Ty)(hs:List Fm):(Pf.mk k i s ts fs l).inf L g hs=yr (ov L k i s ts fs (Pf.sN L l) g hs):=by rw[Pf.inf]
def gV.of{L:List Fm}{k i:Int}{s:Ty}{ts:List Tm}{fs:List Fm}{l:List Pf}{N:Nat}
  (H:∀n n',N<=n->N<=n'->∀p c,PG L p c->kl c.aed (ov L k i s ts fs (Pf.sN L l) c.aed c.aeg) (oU (n+4) L (.mk k i s ts fs l) p) (cu (n'+4) c (.mk k i s ts fs l))):gV L (.mk k i s ts fs l) (N+5):=by
 intro n n' hn b p c h;obtain⟨m,rfl⟩:∃m,n=m+5:=⟨n-5,VW⟩;obtain⟨a,rfl⟩:∃a,n'=a+5:=⟨n'-5,VW⟩;exact kl.infer h.pl.nv (H m a VW VW p c h)
def aba(n:Nat)(c:bZ)(i:Int):cu (n+1) c (.mk 1 i .z [] [] [])=if(qJ i (cI c.aeg)) then some (eI,[],8)else bU (cr c.aeg (dh .i64 (dh .i64 (cI c.aeg) 1) i)) λa=>some (a,[],0):=by rw[cu];rfl
def Re(L:List Fm)(i:Int)(g:List Ty)(hs:List Fm):ov L 1 i .z [] [] (Pf.sN L []) g hs=uk ((hs.length:Int)<=i) 8 (.inl (hs.getD (hs.length-1-i.toNat) eI,0)):=rfl
def aaX(n:Nat)(L:List Fm)(i:Int)(p:cp):oU n L (.mk 1 i .z [] [] []) p=b7 (mj p i) λa b=>if b then some (⟨a,0⟩,0)else some (⟨eI,0⟩,8):=rfl
def SW{L:List Fm}{i:Int}(hi:0<=i):gV L (.mk 1 i .z [] [] []) 5:=by
 refine gV.of (N:=0) λn n' _ _ p c h=>?_;rw[aba,Re,aaX];have g:=h.pl.NP hi
 by_cases e:(c.aeg.length:Int)<=i
 ·grind[iP,bW,qJ,cI,fN,dI,kl.no]
 ·rw[bV e] at g;obtain⟨f,d,k⟩:=g;rw[jn e,k,bW,bX rfl,bV (show¬(qJ i (cI c.aeg)=true) by rw[fN,dI];exact e),d,bT];have l:=h.pl.nh;rw[dI,ds (a:=(c.aeg.length:Int)) VW VW,ds VW VW] at d
  have b:c.aeg.length-1-i.toNat<c.aeg.length:=VW
  rw[show(c.aeg.length:Int)-1-i=((c.aeg.length-1-i.toNat:Nat):Int) by omega,gQ,mi b] at d
  have m:c.aeg.getD (c.aeg.length-1-i.toNat) eI=f:=by grind
  have j:=h.aeg f (by rw[<-fS d];exact BB b);exact kl.yes (by rw[m]) rfl rfl .nil j.ty (by have:=j.aeb;omega)
def ZR(n:Nat)(c:bZ)(i:Int):cu (n+1) c (.mk 2 i .z [] [] [])=if(qJ i (cI c.lemmas)) then some (eI,[],9)else bU (cr c.lemmas i) λa=>some (a,[],0):=by rw[cu];rfl
def Vh(L:List Fm)(i:Int)(g:List Ty)(hs:List Fm):ov L 2 i .z [] [] (Pf.sN L []) g hs=uk ((L.length:Int)<=i) 9 (.inl (L.getD i.toNat eI,0)):=rfl
def aby(n:Nat)(L:List Fm)(i:Int)(p:cp):oU n L (.mk 2 i .z [] [] []) p=if(qJ i (cI L)) then some (⟨eI,0⟩,9)else bU (cr L i) λa=>some (⟨a,0⟩,0):=rfl
def RV{L:List Fm}{i:Int}(hi:0<=i):gV L (.mk 2 i .z [] [] []) 5:=by
 refine gV.of (N:=0) λn n' _ _ p c h=>?_;rw[ZR,Vh,aby,h.I_]
 by_cases b:(L.length:Int)<=i
 ·grind[iP,fN,dI,kl.no]
 ·obtain⟨k,rfl⟩:∃k:Nat,i=k:=⟨i.toNat,VW⟩
  have a:k<L.length:=VW
  rw[jn b,bV (by rw[fN,dI];exact b),bV (by rw[fN,dI];exact b),gQ,mi a,bT,bT]
  have e:L.getD (k:Int).toNat eI=L[k]:=by grind
  have d:=h.X8 _ (BB a);exact kl.yes (by rw[e]) rfl rfl .nil (by simpa using d.ty.front c.aed) (by have:=d.aeb;omega)
def Xw(n:Nat)(c:bZ)(a b:Pf):cu (n+1) c (.mk 3 0 .z [] [] [a,b])=b7 (cA n c a) λd e=>if(cF e 0) then some (eI,[],e)else b7 (cA n c b) λf g=>bU (fZ 2 d.cd f.cd) λh=>bU (en d.eX f.eX) λi=>some (h,i,g):=by rw[cu];rfl
def Np(L:List Fm)(a b:Pf)(g:List Ty)(hs:List Fm):ov L 3 0 .z [] [] (Pf.sN L [a,b]) g hs=pbind (a.inf L g hs) λf m=>pbind (b.inf L g hs) λc n=>.inl (.mk 2 .z [] [f,c],m|||n):=rfl
def Xt(n:Nat)(L:List Fm)(a b:Pf)(p:cp):oU (n+1) L (.mk 3 0 .z [] [] [a,b]) p=b7 (cT n L a p) λc d=>if(cF d 0) then some (⟨eI,0⟩,d)else b7 (cT n L b p) λe f=>if(cF f 0) then some (⟨eI,0⟩,f)else some (⟨.mk 2 .z [] [c.cd,e.cd],xV .u32 c.eX e.eX⟩,0):=by
 show mb (n+1) L (.mk 3 0 .z [] [] [a,b]) p=_;rw[mb];rfl
def M7:eI.wt<=1000000:=aaq
def Pv{L:List Fm}{a b:Pf}{N:Nat}(t:gV L a N)(u:gV L b N):gV L (.mk 3 0 .z [] [] [a,b]) (N+5):=by
 refine gV.of λn n' hn v p c h=>?_;rw[Xw,Np,Xt];rcases t (n+3) (n'+3) VW VW p c h with⟨e,he,d,g,i⟩|⟨f,m,l,d,g,i,hu,o⟩
 ·rw[d,g,i,bW,bW,bX (by rw[cf];exact he),bX (by rw[cf];exact he)];exact kl.no he rfl rfl rfl
 ·have w:=o.aeb;have x:=f.er o.ok;rw[d,g,i,bW,bW,bV aaq,bV aaq,dS];rcases u (n+3) (n'+3) VW VW p c h with⟨e,he,d,g,i⟩|⟨y,C,D,d,g,i,k,j⟩
  ·obtain⟨q,q1,_⟩:=hu.union .nil (by have:=hu.len;omega) aas;have:=M7;rw[d,g,i,bW,bW,bX (by rw[cf];exact he)];simp only[];rw[vj VW VW,bT,q1];exact kl.no he rfl rfl rfl
  ·have r:=j.aeb;have s:=y.er j.ok;obtain⟨q,q1,A,B,_⟩:=hu.union k (by have:=hu.len;omega) (by have:=k.len;omega);rw[d,g,i,bW,bW,bV aaq,dS];simp only[];rw[vj VW VW,bT,q1,A];refine kl.yes rfl rfl rfl B (.two (.inl rfl) o.ty j.ty) ?_;rw[Fm.bY];simp only[cm];omega
def fg.F2{g:List Ty}{f:Fm}(h:fg g f){k:Int}(d:f.ad'=k)(e:k=2\/k=3):∃a b,f=.mk k .z [] [a,b]/\fg g a/\fg g b:=by
 cases h with
 |eq _ _=>grind[Fm.cq]|two c i j=>grind[Fm.cq]|q c _ _=>grind[Fm.cq]
def fg.ux{g:List Ty}{f:Fm}(h:fg g f){k:Int}(d:f.ad'=k)(e:k=4\/k=5\/k=6\/k=7):∃s a,f=.mk k s [] [a]/\s.err=0/\fg (g++[s]) a:=by
 cases h with
 |eq _ _=>grind[Fm.cq]|two b c i=>grind[Fm.cq]|q b hs c=>grind[Fm.cq]
def fg.Sz{g:List Ty}{f:Fm}(h:fg g f)(i:f.ad'=1):∃a b,f=.mk 1 .z [a,b] []/\cJ g a .nat/\cJ g b .nat:=by
 cases h with
 |eq d e=>grind|two c d e=>simp_all|q c hs d=>simp_all
def Hg.sub{g a:List Ty}{k:Int}{s:Ty}{ts:List Tm}{l:List Fm}(h:Hg g (.mk k s ts l)){x:Fm}(c:x∈l)(b:fg a x):Hg a x:=by
 have d:=h.aeb;rw[Fm.bY] at d;have:=cy Fm.aeb c;refine⟨?_,b⟩;unfold Fm.err;rw[bX b.ok,bV VW]
def Xq(n:Nat)(c:bZ)(a:Pf):cu (n+1) c (.mk 4 0 .z [] [] [a])=b7 (cA n c a) λb d=>if(cF d 0) then some (eI,[],d)else if(cF b.cd.ad' 2) then some (eI,[],10)else bU (cr b.cd.aea (dh .i64 4 4)) λe=>some (e,b.eX,0):=by rw[cu];rfl
def WG(n:Nat)(c:bZ)(a:Pf):cu (n+1) c (.mk 5 0 .z [] [] [a])=b7 (cA n c a) λb d=>if(cF d 0) then some (eI,[],d)else if(cF b.cd.ad' 2) then some (eI,[],10)else bU (cr b.cd.aea (dh .i64 5 4)) λe=>some (e,b.eX,0):=by rw[cu];rfl
def NK(L:List Fm)(a:Pf)(g:List Ty)(hs:List Fm):ov L 4 0 .z [] [] (Pf.sN L [a]) g hs=pbind (Ca (a.inf L g hs) 2) λf m=>.inl (f.aea.getD 0 eI,m):=rfl
def N0(L:List Fm)(a:Pf)(g:List Ty)(hs:List Fm):ov L 5 0 .z [] [] (Pf.sN L [a]) g hs=pbind (Ca (a.inf L g hs) 2) λf m=>.inl (f.aea.getD 1 eI,m):=rfl
def Yp(n:Nat)(L:List Fm)(a:Pf)(p:cp):oU (n+1) L (.mk 4 0 .z [] [] [a]) p=b7 (cW n L a p 2) λb c=>if(cF c 0) then some (⟨eI,0⟩,c)else bU (cr b.cd.aea 0) λd=>some (⟨d,b.eX⟩,0):=by
 show gK (n+1) L (.mk 4 0 .z [] [] [a]) p=_;rw[gK];rfl
def V9(n:Nat)(L:List Fm)(a:Pf)(p:cp):oU (n+1) L (.mk 5 0 .z [] [] [a]) p=b7 (cW n L a p 2) λb c=>if(cF c 0) then some (⟨eI,0⟩,c)else bU (cr b.cd.aea 1) λd=>some (⟨d,b.eX⟩,0):=by
 show gK (n+1) L (.mk 5 0 .z [] [] [a]) p=_;rw[gK];rfl
def PQ{L:List Fm}{a:Pf}{N:Nat}(o:gV L a N):gV L (.mk 4 0 .z [] [] [a]) (N+5):=by
 refine gV.of λn n' hn q p c h=>?_;rw[Xq,NK,Yp];rcases lG (o (n+2) (n'+3) VW VW p c h) 2 with⟨e,he,d,g,b⟩|⟨f,m,l,d,g,b,hu,j,i⟩
 ·rw[d,g,bW,bX (by rw[cf];exact he)];rcases b with b|⟨f,l,m,b,i,rfl,_⟩
  ·rw[b,bW,bX (by rw[cf];exact he)];exact kl.no he rfl rfl rfl
  ·rw[b,bW,bV aaq,bX (by rw[cf];exact i)];exact kl.no he rfl rfl rfl
 ·obtain⟨x,y,rfl,k,hy⟩:=j.ty.F2 i (.inl rfl);rw[d,g,b,bW,bW,bV aaq,bV aas,dS];exact kl.yes (f:=x) rfl rfl rfl hu k (by have:=(j.sub aas k).aeb;omega)
def Qx{L:List Fm}{a:Pf}{N:Nat}(k:gV L a N):gV L (.mk 5 0 .z [] [] [a]) (N+5):=by
 refine gV.of λn n' hn o p c h=>?_;rw[WG,N0,V9];rcases lG (k (n+2) (n'+3) VW VW p c h) 2 with⟨e,he,d,g,b⟩|⟨f,m,l,d,g,b,hu,j,i⟩
 ·rw[d,g,bW,bX (by rw[cf];exact he)];rcases b with b|⟨f,l,m,b,i,rfl,_⟩
  ·rw[b,bW,bX (by rw[cf];exact he)];exact kl.no he rfl rfl rfl
  ·rw[b,bW,bV aaq,bX (by rw[cf];exact i)];exact kl.no he rfl rfl rfl
 ·obtain⟨x,y,rfl,q,hy⟩:=j.ty.F2 i (.inl rfl);rw[d,g,b,bW,bW,bV aaq,bV aas,dS];exact kl.yes (f:=y) rfl rfl rfl hu hy (by have:=(j.sub aas hy).aeb;omega)
def W9(n:Nat)(c:bZ)(F:Fm)(a:Pf):cu (n+1) c (.mk 6 0 .z [] [F] [a])=bU (hW c.aed F) λb=>if(cF b 0) then some (eI,[],b)else bU (cG c 0 1) λd=>if(cF d 0) then some (eI,[],d)else bU (ee c F) λf=>b7 (cA n f a) λe g=>bU (fZ 3 F e.cd) λh=>some (h,e.eX,g):=by rw[cu];rfl
def ML(L:List Fm)(F:Fm)(a:Pf)(g:List Ty)(hs:List Fm):ov L 6 0 .z [] [F] (Pf.sN L [a]) g hs=jk (F.ti g) (uk (16<hs.length+1) 3 (pbind (a.inf L g (hs++[F])) λb m=>.inl (.mk 3 .z [] [F,b],m))):=rfl
def WK(n:Nat)(L:List Fm)(F:Fm)(a:Pf)(p:cp):oU (n+1) L (.mk 6 0 .z [] [F] [a]) p=bU (cR FU p.aed F) λb=>if(cF b 0) then some (⟨eI,0⟩,b)else bU (cM p.eT 0 1) λc=>if(cF c 0) then some (⟨eI,0⟩,c)else bU (ef p F) λf=>b7 (cT n L a f) λd e=>if(cF e 0) then some (⟨eI,0⟩,e)else some (⟨.mk 3 .z [] [F,d.cd],d.eX⟩,0):=by
 show l9 (n+1) L (.mk 6 0 .z [] [F] [a]) p=_;rw[l9];rfl
def Py{L:List Fm}{F:Fm}(hF:F.err=0){a:Pf}{N:Nat}(u:gV L a N):gV L (.mk 6 0 .z [] [F] [a]) (N+5):=by
 refine gV.of λn n' hn w p c h=>?_;rw[W9,ML,WK];have j:=h.pl.nv;obtain⟨t1,_,t2⟩:=rF h.pl.ctx VW hF;have x:=(Fm.d_ hF).2;have y:=F.er (Fm.d_ hF).1;rw[h.pl.aed,t1,t2 j,bT,bT]
 by_cases b:F.ti c.aed=0
 ·rw[bV (by rw[cf];simpa using b),bV (by rw[cf];simpa using b),eU b];have i:=p6 F (Fm.d_ hF).1 c.aed h.pl.ctx b;rcases h.room (v:=0) (k:=1) VW VW with⟨d,g,_,t⟩|⟨d,g,t⟩
  ·have d:cM p.eT 0 1=some 0:=d;have g:cG c 0 1=some 0:=g;rw[d,g,bT,bT,bV aaq,bV aaq,jn VW];obtain⟨A,B,C,D,E,G,H⟩:=h.with ⟨hF,i⟩ t;rw[C,D,bT,bT];have hi:=u (n+3) (n'+3) VW VW A B E;rw[G,H] at hi;rcases hi with⟨e,he,o,q,r⟩|⟨f,m,l,o,q,r,hu,s⟩
   ·have:=M7;rw[o,q,r,bW,bW,bX (by rw[cf];exact he)];simp only[];rw[vj VW VW];exact kl.no he rfl rfl rfl
   ·have I:=s.aeb;have J:=f.er s.ok;rw[o,q,r,bW,bW,bV aaq];simp only[];rw[vj VW VW];refine kl.yes rfl rfl rfl hu (.two (.inr rfl) i s.ty) ?_;rw[Fm.bY];simp only[cm];omega
  ·have d:cM p.eT 0 1=some 3:=d;have g:cG c 0 1=some 3:=g;rw[d,g,bT,bT,bX aaq,bX aaq,iP VW];exact kl.no aaq rfl rfl rfl
 ·rw[bX (by rw[cf];exact b),bX (by rw[cf];exact b),gG b];exact kl.no b rfl rfl rfl
def WE(n:Nat)(c:bZ)(a b:Pf):cu (n+1) c (.mk 7 0 .z [] [] [a,b])=b7 (cA n c a) λd e=>if(cF e 0) then some (eI,[],e)else if(cF d.cd.ad' 3) then some (eI,[],10)else b7 (cA n c b) λf g=>if(cF g 0) then some (eI,[],g)else bU (cr d.cd.aea 1) λh=>bU (en d.eX f.eX) λi=>bU (cr d.cd.aea 0) λj=>bU (kI j f.cd) λk=>some (h,i,k):=by rw[cu];rfl
def NX(L:List Fm)(a b:Pf)(g:List Ty)(hs:List Fm):ov L 7 0 .z [] [] (Pf.sN L [a,b]) g hs=pbind (Ca (a.inf L g hs) 3) λa m=>pbind (b.inf L g hs) λb n=>jk (vF (a.aea.getD 0 eI) b) (.inl (a.aea.getD 1 eI,m|||n)):=rfl
def Wq(n:Nat)(L:List Fm)(a b:Pf)(p:cp):oU (n+1) L (.mk 7 0 .z [] [] [a,b]) p=b7 (cW n L a p 3) λc d=>if(cF d 0) then some (⟨eI,0⟩,d)else b7 (cT n L b p) λe f=>if(cF f 0) then some (⟨eI,0⟩,f)else bU (cr c.cd.aea 0) λh=>bU (jF h e.cd) λg=>if(cF g 0) then some (⟨eI,0⟩,g)else bU (cr c.cd.aea 1) λi=>some (⟨i,xV .u32 c.eX e.eX⟩,0):=by
 show l_ (n+1) L (.mk 7 0 .z [] [] [a,b]) p=_;rw[l_];rfl
def Qk{L:List Fm}{a b:Pf}{N:Nat}(B:gV L a N)(C:gV L b N):gV L (.mk 7 0 .z [] [] [a,b]) (N+5):=by
 refine gV.of λn n' hn D p c h=>?_;rw[WE,NX,Wq];rcases lG (B (n+2) (n'+3) VW VW p c h) 3 with⟨e,he,g,i,d⟩|⟨f,m,l,g,i,d,hu,o,r⟩
 ·rw[g,i,bW,bX (by rw[cf];exact he)];rcases d with d|⟨f,l,m,d,r,rfl,_⟩
  ·rw[d,bW,bX (by rw[cf];exact he)];exact kl.no he rfl rfl rfl
  ·rw[d,bW,bV aaq,bX (by rw[cf];exact r)];exact kl.no he rfl rfl rfl
 ·obtain⟨x,y,rfl,v,hy⟩:=o.ty.F2 r (.inr rfl);have s:=o.sub (x:=x) aas v;have t:=o.sub (x:=y) aas hy;have E:=x.er v.ok;have F:=s.aeb;rw[g,i,d,bW,bW,bV aaq,bV aaq,bV aas,dS];rcases C (n+3) (n'+3) VW VW p c h with⟨e,he,g,i,d⟩|⟨u,K,M,g,i,d,j,k⟩
  ·rw[g,i,d,bW,bW,bX (by rw[cf];exact he),bX (by rw[cf];exact he)];exact kl.no he rfl rfl rfl
  ·have w:=k.aeb;have A:=u.er k.ok;obtain⟨q,q1,G,H,_⟩:=hu.union j (by have:=hu.len;omega) (by have:=j.len;omega);obtain⟨I,J⟩:=JC (a:=x) (b:=u) VW VW;rw[g,i,d,bW,bW,bV aaq,bV aaq,dS];simp only[Fm.ck,cD,dV,gf,kW,bT,qK,AK];rw[q1,G,I,J,bT,bT,bT]
   by_cases hm:vF x u=0
   ·rw[eU hm,hm,bV aaq];exact kl.yes rfl rfl rfl H hy (by have:=t.aeb;omega)
   ·rw[gG hm,bX (by rw[cf];exact hm)];exact kl.no hm rfl rfl rfl
def Us.has{l:List Int}{m:Nat}(h:Us l m):pV l=some (m.testBit 0)/\cF (r' .u32 (m:Int) 1) 0=m.testBit 0:=by
 have hm:=h.mem 0;constructor
 ·unfold pV;simp only[cg];cases l with
  |nil=>simp_all|cons a l=>
   rw[bX aas];simp only[cD,gf,bT]
   congr 1
   rw[A_,eu,<-hm];constructor
   ·rintro rfl;simp
   ·intro hh;rcases jW.1 hh with hh|hh
    ·exact hh.symm
    ·cases h.srt with
     |cons s1 _=>
      have:=s1 0 (by simpa using hh);have:=h.pos a aas;omega
 ·rw[show(1:Int)=((1:Nat):Int)from rfl,LP h.lt VW];rw[A_,cf,Nat.testBit_zero,Nat.and_one_is_mod];simp only[m0];omega
def Yu(n:Nat)(c:bZ)(s:Ty)(a:Pf):cu (n+2) c (.mk 8 0 s [] [] [a])=hU (bU (cG c 1 0) λk=>if(cF k 0) then some (eI,[],k)else bU (dk c [s]) λh=>b7 (cA n h a) λb d=>if(cF d 0) then some (eI,[],d)else bU (iW 4 s b.cd) λi=>bU (et b.eX 1) λj=>some (i,j,0)) λe f g=>some (e,f,g):=by
 rw[cu];rw[lO];rfl
def T5(n:Nat)(c:bZ)(s:Ty)(a:Pf):cu (n+2) c (.mk 12 0 s [] [] [a])=hU (bU (cG c 1 0) λl=>if(cF l 0) then some (eI,[],l)else bU (dk c [s]) λh=>b7 (cA n h a) λb d=>if(cF d 0) then some (eI,[],d)else bU (pV b.eX) λi=>if i then some (eI,[],12)else bU (iW 6 s b.cd) λj=>bU (et b.eX 1) λk=>some (j,k,0)) λe f g=>some (e,f,g):=by
 rw[cu];rw[lO];rfl
def Gv(L:List Fm)(s:Ty)(a:Pf)(g:List Ty)(hs:List Fm):ov L 8 0 s [] [] (Pf.sN L [a]) g hs=uk (16<g.length+1) 3 (pbind (a.inf L (g++[s]) (hs.map (Fm.up 0 1))) λb m=>.inl (.mk 4 s [] [b],m/2)):=rfl
def OQ(L:List Fm)(s:Ty)(a:Pf)(g:List Ty)(hs:List Fm):ov L 12 0 s [] [] (Pf.sN L [a]) g hs=uk (16<g.length+1) 3 (pbind (a.inf L (g++[s]) (hs.map (Fm.up 0 1))) λb m=>uk (m.testBit 0=true) 12 (.inl (.mk 6 s [] [b],m/2))):=rfl
def XY(n:Nat)(L:List Fm)(s:Ty)(a:Pf)(p:cp):oU (n+1) L (.mk 8 0 s [] [] [a]) p=bU (cM p.eT 1 0) λf=>if(cF f 0) then some (⟨eI,0⟩,f)else bU (dT p [s]) λd=>b7 (cT n L a d) λb c=>if(cF c 0) then some (⟨eI,0⟩,c)else bU (dz b.eX 1) λe=>some (⟨.mk 4 s [] [b.cd],e⟩,0):=by
 show gr (n+1) L (.mk 8 0 s [] [] [a]) p=_;rw[gr];rfl
def TQ(n:Nat)(L:List Fm)(s:Ty)(a:Pf)(p:cp):oU (n+1) L (.mk 12 0 s [] [] [a]) p=bU (cM p.eT 1 0) λf=>if(cF f 0) then some (⟨eI,0⟩,f)else bU (dT p [s]) λd=>b7 (cT n L a d) λb c=>if(cF c 0) then some (⟨eI,0⟩,c)else if(cF (r' .u32 b.eX 1) 0) then some (⟨eI,0⟩,12)else bU (dz b.eX 1) λe=>some (⟨.mk 6 s [] [b.cd],e⟩,0):=by
 show gr (n+1) L (.mk 12 0 s [] [] [a]) p=_;rw[gr];rfl
def Qg{L:List Fm}{s:Ty}(hs:s.err=0){a:Pf}{N:Nat}(t:gV L a N):gV L (.mk 8 0 s [] [] [a]) (N+5):=by
 refine gV.of λn n' hn u p c h=>?_;rw[show n'+4=n'+2+2 from rfl,Yu,Gv,XY];rcases h.room (v:=1) (k:=0) VW VW with⟨b,d,r,_⟩|⟨b,d,r⟩
 ·have b:cM p.eT 1 0=some 0:=b;have d:cG c 1 0=some 0:=d;rw[b,d,bT,bT,bV nz,bV nz,jn VW];obtain⟨w,x,y,z,A,B,C⟩:=h.below hs r;rw[y,z,bT,bT];have hi:=t (n+3) (n'+2) VW VW w x A;rw[B,C] at hi;rcases hi with⟨e,he,g,i,j⟩|⟨f,m,l,g,i,j,hu,o⟩
  ·rw[g,i,j,bW,bW,bX (by rw[cf];exact he),bX (by rw[cf];exact he)];exact kl.no he rfl rfl rfl
  ·have D:=o.aeb;have E:=f.er o.ok;have F:=dd hs;obtain⟨u1,u2,u3⟩:=hu.out (by have:=hu.len;omega) (k:=1) VW;rw[g,i,j,bW,bW,bV nz,bV nz,dS];simp only[];rw[MC VW VW,bT,show(1:Int)=((1:Nat):Int)from rfl,u1,u2];refine kl.yes rfl rfl rfl u3 (.q (.inl rfl) hs o.ty) ?_;rw[Fm.bY];simp only[cm];omega
 ·have b:cM p.eT 1 0=some 3:=b;have d:cG c 1 0=some 3:=d;have G:=h.pl.nh;rw[b,d,bT,bT,bX aaq,bX aaq,iP VW];exact kl.no aaq rfl rfl rfl
def Mv{L:List Fm}{s:Ty}(hs:s.err=0){a:Pf}{N:Nat}(u:gV L a N):gV L (.mk 12 0 s [] [] [a]) (N+5):=by
 refine gV.of λn n' hn w p c h=>?_;rw[show n'+4=n'+2+2 from rfl,T5,OQ,TQ];rcases h.room (v:=1) (k:=0) VW VW with⟨b,d,t,_⟩|⟨b,d,t⟩
 ·have b:cM p.eT 1 0=some 0:=b;have d:cG c 1 0=some 0:=d;rw[b,d,bT,bT,bV nz,bV nz,jn VW];obtain⟨x,y,z,A,B,C,D⟩:=h.below hs t;rw[z,A,bT,bT];have hi:=u (n+3) (n'+2) VW VW x y B;rw[C,D] at hi;rcases hi with⟨e,he,i,j,o⟩|⟨f,m,l,i,j,o,hu,r⟩
  ·rw[i,j,o,bW,bW,bX (by rw[cf];exact he),bX (by rw[cf];exact he)];exact kl.no he rfl rfl rfl
  ·have E:=r.aeb;have F:=f.er r.ok;have G:=dd hs;obtain⟨u1,u2,u3⟩:=hu.out (by have:=hu.len;omega) (k:=1) VW;obtain⟨H,I⟩:=hu.has;rw[i,j,o,bW,bW,bV nz,bV nz,dS];simp only[];rw[H,I,bT]
   by_cases g:m.testBit 0=true
   ·rw[iP g,bX g,bX g];exact kl.no aaq rfl rfl rfl
   ·rw[jn g,bV g,bV g,MC VW VW,bT,show(1:Int)=((1:Nat):Int)from rfl,u1,u2];refine kl.yes rfl rfl rfl u3 (.q (.inr (.inr (.inl rfl))) hs r.ty) ?_;rw[Fm.bY];simp only[cm];omega
 ·have b:cM p.eT 1 0=some 3:=b;have d:cG c 1 0=some 3:=d;have J:=h.pl.nh;rw[b,d,bT,bT,bX aaq,bX aaq,iP VW];exact kl.no aaq rfl rfl rfl
theorem Na(a b:Ty):a.jc b=b.jc a:=by grind[Ty.ja]
def oi{a b:Ty}(c:a.err=0)(d:b.err=0):gD (ra a) b=some (a.jc b)/\du FU b a=some (a.jc b):=by
 have e:=dd c;have f:=dd d
 grind[gD,jG,bT,qn,gn,Na]
def abx(n:Nat)(c:bZ)(t:Tm)(a:Pf):cu (n+2) c (.mk 9 0 .z [t] [] [a])=hU (b7 (iK c.aed t) λp o=>if(cF o 0) then some (eI,[],o)else b7 (cA n c a) λb d=>if(cF d 0) then some (eI,[],d)else bU (iQ t) λh=>bU (en b.eX h) λi=>if(cF b.cd.ad' 4) then some (eI,[],10)else bU (du FU b.cd.b8 p) λj=>if j then bU (cr b.cd.aea 0) λk=>b7 (hZ k t) λl m=>some (l,i,m)else some (eI,[],7)) λe f g=>some (e,f,g):=by
 rw[cu];rw[mq];rfl
def Wy(n:Nat)(c:bZ)(t:Tm)(a:Pf):cu (n+2) c (.mk 13 0 .z [t] [] [a])=hU (b7 (iK c.aed t) λo m=>if(cF m 0) then some (eI,[],m)else b7 (cA n c a) λb d=>if(cF d 0) then some (eI,[],d)else bU (iQ t) λh=>bU (en b.eX h) λp=>if(cF b.cd.ad' 6) then some (eI,[],10)else bU (du FU b.cd.b8 o) λi=>if i then bU (cr b.cd.aea 0) λj=>b7 (hZ j t) λk l=>some (k,b.eX,l)else some (eI,[],7)) λe f g=>some (e,f,g):=by
 rw[cu];rw[mq];rfl
def Q5(L:List Fm)(t:Tm)(a:Pf)(g:List Ty)(hs:List Fm):ov L 9 0 .z [t] [] (Pf.sN L [a]) g hs=jk (t.ty g).2 (pbind (Ca (a.inf L g hs) 4) λa m=>uk ((t.ty g).1.jc a.b8=false) 7 (jk (k4 (a.aea.getD 0 eI) t).2 (.inl ((k4 (a.aea.getD 0 eI) t).1,m|||pX t)))):=rfl
def Rh(L:List Fm)(t:Tm)(a:Pf)(g:List Ty)(hs:List Fm):ov L 13 0 .z [t] [] (Pf.sN L [a]) g hs=jk (t.ty g).2 (pbind (Ca (a.inf L g hs) 6) λa m=>uk ((t.ty g).1.jc a.b8=false) 7 (jk (k4 (a.aea.getD 0 eI) t).2 (.inl ((k4 (a.aea.getD 0 eI) t).1,m)))):=rfl
def ZW(n:Nat)(L:List Fm)(t:Tm)(a:Pf)(p:cp):oU (n+1) L (.mk 9 0 .z [t] [] [a]) p=b7 (cS FU p.aed t) λj i=>if(cF i 0) then some (⟨eI,0⟩,i)else bU (jS t) λd=>b7 (cW n L a p 4) λb c=>if(cF c 0) then some (⟨eI,0⟩,c)else bU (gD j b.cd.b8) λe=>if e then bU (cr b.cd.aea 0) λf=>b7 (hE f t) λg h=>some (⟨g,xV .u32 b.eX d⟩,h)else some (⟨eI,0⟩,7):=by
 show gp (n+1) L (.mk 9 0 .z [t] [] [a]) p=_;rw[gp];rfl
def Xd(n:Nat)(L:List Fm)(t:Tm)(a:Pf)(p:cp):oU (n+1) L (.mk 13 0 .z [t] [] [a]) p=b7 (cS FU p.aed t) λi h=>if(cF h 0) then some (⟨eI,0⟩,h)else bU (jS t) λj=>b7 (cW n L a p 6) λb c=>if(cF c 0) then some (⟨eI,0⟩,c)else bU (gD i b.cd.b8) λd=>if d then bU (cr b.cd.aea 0) λe=>b7 (hE e t) λf g=>some (⟨f,xV .u32 b.eX 0⟩,g)else some (⟨eI,0⟩,7):=by
 show gp (n+1) L (.mk 13 0 .z [t] [] [a]) p=_;rw[gp];rfl
def LH{m:Nat}(h:m<4294967296):xV .u32 (m:Int) 0=(m:Int):=by
 rw[show(0:Int)=((0:Nat):Int)from rfl,IU h VW,Nat.or_zero]
def tg{t:Tm}(a:t.err=0){g:List Ty}(b:gd g):(∃e,e≠0/\(t.ty g).2=e/\∃z,t.ty g=(z,e))\/∃s,t.ty g=(s,0)/\cJ g t s/\s.err=0:=by
 obtain⟨s,e,c⟩:∃s e,t.ty g=(s,e):=⟨_,_,rfl⟩
 by_cases he:e=0
 ·subst he;obtain⟨d,f⟩:=pq _ t (fT _) (Tm.d_ a).1 g b s c
  grind
 ·grind
def SU{L:List Fm}{t:Tm}(d:t.err=0){a:Pf}{N:Nat}(D:gV L a N):gV L (.mk 9 0 .z [t] [] [a]) (N+5):=by
 refine gV.of λn n' hn E p c h=>?_;have g:=h.pl.nv;rw[show n'+4=n'+2+2 from rfl,abx,Q5,ZW,h.pl.aed,(lR h.pl.ctx g d).1,(lR h.pl.ctx g d).2];rcases tg d h.pl.ctx with⟨e,he,q1,z,F⟩|⟨s,q1,j,hs⟩
 ·rw[F,ke he,bW,bW,bX (by rw[cf];exact he),bX (by rw[cf];exact he),gG he];exact kl.no he rfl rfl rfl
 ·obtain⟨H,f1,f2,f3⟩:=vC g j d;rw[q1,nV,bW,bW,bV nz,bV nz,eU rfl,f1,bT];rcases lG (D (n+2) (n'+2) VW VW p c h) 4 with⟨e,he,o,r,i⟩|⟨f,m,l,o,r,i,hu,A,u⟩
  ·rw[o,r,bW,bX (by rw[cf];exact he)];rcases i with i|⟨f,l,m,i,u,rfl,hu⟩
   ·rw[i,bW,bX (by rw[cf];exact he)];exact kl.no he rfl rfl rfl
   ·obtain⟨q,u1,_⟩:=hu.union f3 (by have:=hu.len;omega) (by have:=f3.len;omega);rw[i,bW,bV nz,f2,bT,u1,bT,bX (by rw[cf];exact u)];exact kl.no he rfl rfl rfl
  ·obtain⟨B,x,rfl,k,C⟩:=A.ty.ux u (.inl rfl);have v:=A.sub (x:=x) aas C;obtain⟨q,u1,u2,u3,_⟩:=hu.union f3 (by have:=hu.len;omega) (by have:=f3.len;omega);rw[o,r,i,bW,bW,bV nz,bV nz,f2,bT,dS];simp only[Fm.cq,Fm.cQ,Fm.ck,cD,gf,bT,qK];rw[u1,u2,bT,bV (show¬cF 4 4=true by decide),(oi hs k).1,(oi hs k).2,bT,bT]
   by_cases b:s.jc B=true
   ·have:=(Ty.ja s B).1 b;subst this;have w:qY c.aed x t:=⟨v.err,d,s,C,j⟩;rw[jn (by rw[b];decide),bX b,bX b,(w.both VW).1,(w.both VW).2];rcases kZ x t with y|⟨G,y⟩
    ·rw[y,bW,bW,gG aaq];exact kl.no aaq rfl rfl rfl
    ·rw[y,bW,bW,eU rfl];exact kl.yes (f:=Fm.eG 0 x t) rfl rfl rfl u3 w.put VW
   ·rw[iP (by simpa using b),bV b,bV b];exact kl.no aaq rfl rfl rfl
def Ph{L:List Fm}{t:Tm}(d:t.err=0){a:Pf}{N:Nat}(D:gV L a N):gV L (.mk 13 0 .z [t] [] [a]) (N+5):=by
 refine gV.of λn n' hn E p c h=>?_;have g:=h.pl.nv;rw[show n'+4=n'+2+2 from rfl,Wy,Rh,Xd,h.pl.aed,(lR h.pl.ctx g d).1,(lR h.pl.ctx g d).2];rcases tg d h.pl.ctx with⟨e,he,q1,z,F⟩|⟨s,q1,j,hs⟩
 ·rw[F,ke he,bW,bW,bX (by rw[cf];exact he),bX (by rw[cf];exact he),gG he];exact kl.no he rfl rfl rfl
 ·obtain⟨H,f1,f2,f3⟩:=vC g j d;rw[q1,nV,bW,bW,bV nz,bV nz,eU rfl,f1,bT];rcases lG (D (n+2) (n'+2) VW VW p c h) 6 with⟨e,he,o,r,i⟩|⟨f,m,l,o,r,i,hu,A,u⟩
  ·rw[o,r,bW,bX (by rw[cf];exact he)];rcases i with i|⟨f,l,m,i,u,rfl,hu⟩
   ·rw[i,bW,bX (by rw[cf];exact he)];exact kl.no he rfl rfl rfl
   ·obtain⟨q,u1,_⟩:=hu.union f3 (by have:=hu.len;omega) (by have:=f3.len;omega);rw[i,bW,bV nz,f2,bT,u1,bT,bX (by rw[cf];exact u)];exact kl.no he rfl rfl rfl
  ·obtain⟨B,x,rfl,k,C⟩:=A.ty.ux u (.inr (.inr (.inl rfl)));have v:=A.sub (x:=x) aas C;obtain⟨q,u1,_⟩:=hu.union f3 (by have:=hu.len;omega) (by have:=f3.len;omega);rw[o,r,i,bW,bW,bV nz,bV nz,f2,bT,dS];simp only[Fm.cq,Fm.cQ,Fm.ck,cD,gf,bT,qK];rw[u1,LH hu.lt,bT,bV (show¬cF 6 6=true by decide),(oi hs k).1,(oi hs k).2,bT,bT]
   by_cases b:s.jc B=true
   ·have:=(Ty.ja s B).1 b;subst this;have w:qY c.aed x t:=⟨v.err,d,s,C,j⟩;rw[jn (by rw[b];decide),bX b,bX b,(w.both VW).1,(w.both VW).2];rcases kZ x t with y|⟨G,y⟩
    ·rw[y,bW,bW,gG aaq];exact kl.no aaq rfl rfl rfl
    ·rw[y,bW,bW,eU rfl];exact kl.yes (f:=Fm.eG 0 x t) rfl rfl rfl hu w.put VW
   ·rw[iP (by simpa using b),bV b,bV b];exact kl.no aaq rfl rfl rfl
def XT(n:Nat)(c:bZ)(t:Tm)(F:Fm)(a:Pf):cu (n+2) c (.mk 10 0 .z [t] [F] [a])=hU (bU (hW c.aed F) λb=>if(cF b 0) then some (eI,[],b)else if(cF F.ad' 5) then some (eI,[],10)else b7 (iK c.aed t) λh d=>if(cF d 0) then some (eI,[],d)else bU (du FU F.b8 h) λi=>if i then bU (cr F.aea 0) λj=>b7 (dc n c a j t) λk l=>bU (iQ t) λm=>bU (en k m) λo=>some (F,o,l)else some (eI,[],7)) λe f g=>some (e,f,g):=by
 rw[cu];rw[mv];rfl
def W5(n:Nat)(c:bZ)(t:Tm)(F:Fm)(a:Pf):cu (n+2) c (.mk 14 0 .z [t] [F] [a])=hU (bU (hW c.aed F) λb=>if(cF b 0) then some (eI,[],b)else if(cF F.ad' 7) then some (eI,[],10)else b7 (iK c.aed t) λh d=>if(cF d 0) then some (eI,[],d)else bU (du FU F.b8 h) λi=>if i then bU (cr F.aea 0) λj=>b7 (dc n c a j t) λk l=>some (F,k,l)else some (eI,[],7)) λe f g=>some (e,f,g):=by
 rw[cu];rw[mv];rfl
def NB(L:List Fm)(t:Tm)(F:Fm)(a:Pf)(g:List Ty)(hs:List Fm):ov L 10 0 .z [t] [F] (Pf.sN L [a]) g hs=jk (F.ti g) (uk (F.ad'≠5) 10 (jk (t.ty g).2 (uk ((t.ty g).1.jc F.b8=false) 7 (pbind (B9 (a.inf L g hs) (F.aea.getD 0 eI) t) λ_ m=>.inl (F,m|||pX t))))):=rfl
def Q7(L:List Fm)(t:Tm)(F:Fm)(a:Pf)(g:List Ty)(hs:List Fm):ov L 14 0 .z [t] [F] (Pf.sN L [a]) g hs=jk (F.ti g) (uk (F.ad'≠7) 10 (jk (t.ty g).2 (uk ((t.ty g).1.jc F.b8=false) 7 (pbind (B9 (a.inf L g hs) (F.aea.getD 0 eI) t) λ_ m=>.inl (F,m))))):=rfl
def Wm(n:Nat)(L:List Fm)(t:Tm)(F:Fm)(a:Pf)(p:cp):oU (n+1) L (.mk 10 0 .z [t] [F] [a]) p=bU (cR FU p.aed F) λc=>if(cF c 0) then some (⟨eI,0⟩,c)else if(cF F.ad' 5) then some (⟨eI,0⟩,10)else b7 (cS FU p.aed t) λh d=>if(cF d 0) then some (⟨eI,0⟩,d)else bU (gD h F.b8) λi=>if i then bU (cr F.aea 0) λe=>b7 (c6 n L a p e t) λf b=>if(cF b 0) then some (⟨eI,0⟩,b)else bU (jS t) λg=>some (⟨F,xV .u32 f.eX g⟩,0)else some (⟨eI,0⟩,7):=by
 show gN (n+1) L (.mk 10 0 .z [t] [F] [a]) p=_;rw[gN];rfl
def Ys(n:Nat)(L:List Fm)(t:Tm)(F:Fm)(a:Pf)(p:cp):oU (n+1) L (.mk 14 0 .z [t] [F] [a]) p=bU (cR FU p.aed F) λc=>if(cF c 0) then some (⟨eI,0⟩,c)else if(cF F.ad' 7) then some (⟨eI,0⟩,10)else b7 (cS FU p.aed t) λg d=>if(cF d 0) then some (⟨eI,0⟩,d)else bU (gD g F.b8) λh=>if h then bU (cr F.aea 0) λe=>b7 (c6 n L a p e t) λf b=>if(cF b 0) then some (⟨eI,0⟩,b)else some (⟨F,xV .u32 f.eX 0⟩,0)else some (⟨eI,0⟩,7):=by
 show gN (n+1) L (.mk 14 0 .z [t] [F] [a]) p=_;rw[gN];rfl
def P0{L:List Fm}{t:Tm}(d:t.err=0){F:Fm}(hF:F.err=0){a:Pf}{N:Nat}(E:gV L a N):gV L (.mk 10 0 .z [t] [F] [a]) (N+5):=by
 refine gV.of λn n' hn G p c h=>?_;have g:=h.pl.nv;obtain⟨t1,_,t2⟩:=rF h.pl.ctx VW hF;have H:=(Fm.d_ hF).2;rw[show n'+4=n'+2+2 from rfl,XT,NB,Wm,h.pl.aed,(lR h.pl.ctx g d).1,(lR h.pl.ctx g d).2,t1,t2 g,bT,bT]
 by_cases j:F.ti c.aed=0
 ·have o:¬cF (F.ti c.aed) 0=true:=by rw[cf];simpa using j
  rw[bV o,bV o,eU j];have i:=p6 F (Fm.d_ hF).1 c.aed h.pl.ctx j
  by_cases k:F.ad'=5
  ·have o:¬cF F.ad' 5=true:=by rw[cf];simpa using k
   rw[bV o,bV o,jn (by simpa using k)];rcases tg d h.pl.ctx with⟨e,he,q1,z,I⟩|⟨s,q1,r,hs⟩
   ·rw[I,ke he,bW,bW,bX (by rw[cf];exact he),bX (by rw[cf];exact he),gG he];exact kl.no he rfl rfl rfl
   ·obtain⟨v,x,rfl,u,D⟩:=i.ux k (.inr (.inl rfl));have w:Hg c.aed (.mk 5 v [] [x]):=⟨hF,i⟩;have y:=w.sub (x:=x) aas D;obtain⟨K,f1,f2,f3⟩:=vC g r d;rw[q1,nV,bW,bW,bV nz,bV nz,eU rfl];simp only[Fm.cq,Fm.cQ,Fm.ck,cD,gf,bT,qK];rw[(oi hs u).1,(oi hs u).2,bT,bT]
    by_cases b:s.jc v=true
    ·have:=(Ty.ja s v).1 b;subst this;have J:qY c.aed x t:=⟨y.err,d,s,D,r⟩;rw[jn (by rw[b];decide),bX b,bX b];rcases rb g (E (n+2) (n'+1) VW VW p c h) J with⟨e,z,l,m,he,A,B,C,hu⟩|⟨f,m,l,A,B,C,hu⟩
     ·obtain⟨q,u1,_⟩:=hu.union f3 (by have:=hu.len;omega) (by have:=f3.len;omega);rw[A,B,C,bW,bW,bX (by rw[cf];exact he),f2,bT,u1];exact kl.no he rfl rfl rfl
     ·obtain⟨q,u1,u2,u3,_⟩:=hu.union f3 (by have:=hu.len;omega) (by have:=f3.len;omega);rw[A,B,C,bW,bW,bV nz,f1,f2,bT,bT,dS];simp only[];rw[u1,u2];exact kl.yes rfl rfl rfl u3 i VW
    ·rw[iP (by simpa using b),bV b,bV b];exact kl.no aaq rfl rfl rfl
  ·rw[bX (by rw[cf];exact k),bX (by rw[cf];exact k),iP k];exact kl.no aaq rfl rfl rfl
 ·rw[bX (by rw[cf];exact j),bX (by rw[cf];exact j),gG j];exact kl.no j rfl rfl rfl
def Qi{L:List Fm}{t:Tm}(g:t.err=0){F:Fm}(hF:F.err=0){a:Pf}{N:Nat}(D:gV L a N):gV L (.mk 14 0 .z [t] [F] [a]) (N+5):=by
 refine gV.of λn n' hn E p c h=>?_;have i:=h.pl.nv;obtain⟨t1,_,t2⟩:=rF h.pl.ctx VW hF;have G:=(Fm.d_ hF).2;rw[show n'+4=n'+2+2 from rfl,W5,Q7,Ys,h.pl.aed,(lR h.pl.ctx i g).1,(lR h.pl.ctx i g).2,t1,t2 i,bT,bT]
 by_cases j:F.ti c.aed=0
 ·have o:¬cF (F.ti c.aed) 0=true:=by rw[cf];simpa using j
  rw[bV o,bV o,eU j];have d:=p6 F (Fm.d_ hF).1 c.aed h.pl.ctx j
  by_cases k:F.ad'=7
  ·have o:¬cF F.ad' 7=true:=by rw[cf];simpa using k
   rw[bV o,bV o,jn (by simpa using k)];rcases tg g h.pl.ctx with⟨e,he,q1,z,H⟩|⟨s,q1,r,hs⟩
   ·rw[H,ke he,bW,bW,bX (by rw[cf];exact he),bX (by rw[cf];exact he),gG he];exact kl.no he rfl rfl rfl
   ·obtain⟨u,x,rfl,q,C⟩:=d.ux k (.inr (.inr (.inr rfl)));have v:Hg c.aed (.mk 7 u [] [x]):=⟨hF,d⟩;have w:=v.sub (x:=x) aas C;rw[q1,nV,bW,bW,bV nz,bV nz,eU rfl];simp only[Fm.cq,Fm.cQ,Fm.ck,cD,gf,bT,qK];rw[(oi hs q).1,(oi hs q).2,bT,bT]
    by_cases b:s.jc u=true
    ·have:=(Ty.ja s u).1 b;subst this;have I:qY c.aed x t:=⟨w.err,g,s,C,r⟩;rw[jn (by rw[b];decide),bX b,bX b];rcases rb i (D (n+2) (n'+1) VW VW p c h) I with⟨e,z,l,m,he,y,A,B,hu⟩|⟨f,m,l,y,A,B,hu⟩
     ·rw[y,A,B,bW,bW,bX (by rw[cf];exact he)];exact kl.no he rfl rfl rfl
     ·rw[y,A,B,bW,bW,bV nz,dS];simp only[];rw[LH hu.lt];exact kl.yes rfl rfl rfl hu d VW
    ·rw[iP (by simpa using b),bV b,bV b];exact kl.no aaq rfl rfl rfl
  ·rw[bX (by rw[cf];exact k),bX (by rw[cf];exact k),iP k];exact kl.no aaq rfl rfl rfl
 ·rw[bX (by rw[cf];exact j),bX (by rw[cf];exact j),gG j];exact kl.no j rfl rfl rfl
def O2(k:Fm->Option (Fm×List Int×Int))(f:Fm):Option (Fm×List Int×Int):=
 bU (oJ FU f 0) λc=>if c then b7 (lB FU f) λa b=>if(cF b 0) then some (eI,[],b)else bU (oJ FU a 0) λd=>if d then some (eI,[],6)else k (.mk a.ad' (.mk a.b8.ad' a.b8.aea) a.cx a.aea)else k (.mk f.ad' (.mk f.b8.ad' f.b8.aea) f.cx f.aea)
def Sg(n:Nat)(c:bZ)(a b:Pf):cu (n+2) c (.mk 11 0 .z [] [] [a,b])=hU (b7 (cA n c a) λd e=>if(cF e 0) then some (eI,[],e)else if(cF d.cd.ad' 5) then some (eI,[],10)else bU (cG c 1 1) λg=>if(cF g 0) then some (eI,[],g)else bU (dk c [d.cd.b8]) λq=>bU (cr d.cd.aea 0) λr=>bU (ee q r) λs=>b7 (cA n s b) λh i=>if(cF i 0) then some (eI,[],i)else O2 (λf=>bU (fQ FU f 1 (-1)) λj=>bU (et h.eX 1) λk=>bU (en d.eX k) λl=>some (j,l,0)) h.cd) λm o p=>some (m,o,p):=by
 rw[cu];rw[k1];rfl
def S9(n:Nat)(c:bZ)(a b:Pf):cu (n+2) c (.mk 15 0 .z [] [] [a,b])=hU (b7 (cA n c a) λd g=>if(cF g 0) then some (eI,[],g)else if(cF d.cd.ad' 7) then some (eI,[],10)else bU (cG c 1 1) λh=>if(cF h 0) then some (eI,[],h)else bU (dk c [d.cd.b8]) λr=>bU (cr d.cd.aea 0) λs=>bU (ee r s) λt=>b7 (cA n t b) λe i=>if(cF i 0) then some (eI,[],i)else O2 (λf=>bU (pV e.eX) λj=>if j then some (eI,[],12)else bU (fQ FU f 1 (-1)) λk=>bU (et e.eX 1) λl=>bU (en d.eX l) λm=>some (k,m,0)) e.cd) λo p q=>some (o,p,q):=by
 rw[cu];rw[k1];rfl
def LQ(L:List Fm)(a b:Pf)(g:List Ty)(hs:List Fm):ov L 11 0 .z [] [] (Pf.sN L [a,b]) g hs=pbind (Ca (a.inf L g hs) 5) λa m=>uk (16<g.length+1\/16<hs.length+1) 3 (pbind (b.inf L (g++[a.b8]) (hs.map (Fm.up 0 1)++[a.aea.getD 0 eI])) λb n=>jk (Bc b).2 (.inl ((Bc b).1,m|||n/2))):=rfl
def Mh(L:List Fm)(a b:Pf)(g:List Ty)(hs:List Fm):ov L 15 0 .z [] [] (Pf.sN L [a,b]) g hs=pbind (Ca (a.inf L g hs) 7) λa m=>uk (16<g.length+1\/16<hs.length+1) 3 (pbind (b.inf L (g++[a.b8]) (hs.map (Fm.up 0 1)++[a.aea.getD 0 eI])) λb n=>jk (Bc b).2 (uk (n.testBit 0=true) 12 (.inl ((Bc b).1,m|||n/2)))):=rfl
def Rp(n:Nat)(L:List Fm)(a b:Pf)(p:cp):oU (n+1) L (.mk 11 0 .z [] [] [a,b]) p=b7 (cW n L a p 5) λc d=>if(cF d 0) then some (⟨eI,0⟩,d)else bU (cM p.eT 1 1) λe=>if(cF e 0) then some (⟨eI,0⟩,e)else bU (dT p [c.cd.b8]) λi=>bU (cr c.cd.aea 0) λj=>bU (ef i j) λk=>b7 (cT n L b k) λf g=>if(cF g 0) then some (⟨eI,0⟩,g)else b7 (oh f.cd) λl h=>if(cF h 0) then some (⟨eI,0⟩,h)else bU (dz f.eX 1) λm=>some (⟨l,xV .u32 c.eX m⟩,0):=by
 show gR (n+1) L (.mk 11 0 .z [] [] [a,b]) p=_;rw[gR];rfl
def RM(n:Nat)(L:List Fm)(a b:Pf)(p:cp):oU (n+1) L (.mk 15 0 .z [] [] [a,b]) p=b7 (cW n L a p 7) λc e=>if(cF e 0) then some (⟨eI,0⟩,e)else bU (cM p.eT 1 1) λf=>if(cF f 0) then some (⟨eI,0⟩,f)else bU (dT p [c.cd.b8]) λi=>bU (cr c.cd.aea 0) λj=>bU (ef i j) λk=>b7 (cT n L b k) λd g=>if(cF g 0) then some (⟨eI,0⟩,g)else b7 (oh d.cd) λl h=>if(cF h 0) then some (⟨eI,0⟩,h)else if(cF (r' .u32 d.eX 1) 0) then some (⟨eI,0⟩,12)else bU (dz d.eX 1) λm=>some (⟨l,xV .u32 c.eX m⟩,0):=by
 show gR (n+1) L (.mk 15 0 .z [] [] [a,b]) p=_;rw[gR];rfl
def LW{g:List Ty}{s:Ty}{f:Fm}(h:Hg (g++[s]) f)(hg:g.length<=1000)(k:Fm->Option (Fm×List Int×Int))(k':Fm->Option (Fm×List Int×Int))(j:∀x,x.aeh 0=0->x.aeb<=4096*4096->x.aef 1000000000000=true->k x=k' (x.up 1 (-1))):O2 k f=if(Bc f).2=0 then k' (Bc f).1 else some (eI,[],(Bc f).2):=by
 have hn:=h.aeb;have m:f.aef 1000000000000=true:=h.ty.aef _ aaQ;unfold O2;rw[BH FU f 0 (by rw[cP];omega) VW VW VW,bT,Ty.iG,Fm.iG]
 by_cases i:f.aeh 0=0
 ·have hw:Bc f=(f.up 1 (-1),0):=by unfold Bc;rw[bX i]
  grind
 ·rw[bX (show decide (0<f.aeh 0)=true by simp;omega),Es FU f (by rw[cP];omega) VW (P7.of f hn h.ok (h.ty.aef _ aaQ))];obtain⟨a,b,d⟩:∃a b,f.vN 0=(a,b):=⟨_,_,rfl⟩
  have hw:Bc f=if b≠0 then(eI,b)else if a.aeh 0≠0 then(eI,6)else(a.up 1 (-1),0):=by unfold Bc;rw[bV i,d]
  rw[d];simp only[]
  by_cases he:b=0
  ·subst he;have c:=NJ h.ty 0 aaQ hn (by rw[d]);rw[d] at c;obtain⟨_,a2,a3⟩:=c;have a2:fg (g++[s]) a:=a2;have a3:a.aeb<=3000*f.aeb:=a3;rw[bV aaq] at hw;rw[bX rfl,bW,bV nz,BH FU a 0 (by rw[cP];omega) VW VW VW,bT,Ty.iG,Fm.iG]
   by_cases e:a.aeh 0=0
   ·rw[bV (by simpa using e)] at hw;rw[hw,bV (show¬(decide (0<a.aeh 0)=true) by simp;omega)];exact(j a e VW (a2.aef _ aaQ)).trans (bX rfl).symm
   ·rw[bX e] at hw;rw[hw,bX (show decide (0<a.aeh 0)=true by simp;omega)];rfl
  ·rw[bX he] at hw
   have l:cF b 0=true:=by rw[cf];exact he
   rw[hw,bV he,bW,bX l,bV he]
def Ku{L:List Fm}{a b:Pf}{N:Nat}(I:gV L a N)(J:gV L b N):gV L (.mk 11 0 .z [] [] [a,b]) (N+5):=by
 refine gV.of λn n' hn K p c h=>?_;have M:=h.pl.nv;rw[show n'+4=n'+2+2 from rfl,Sg,LQ,Rp];rcases lG (I (n+2) (n'+2) VW VW p c h) 5 with⟨e,he,g,i,d⟩|⟨f,m,l,g,i,d,hu,C,A⟩
 ·rw[g,i,bW,bX (by rw[cf];exact he)];rcases d with d|⟨f,l,m,d,A,rfl,_⟩
  ·rw[d,bW,bX (by rw[cf];exact he)];exact kl.no he rfl rfl rfl
  ·rw[d,bW,bV nz,bX (by rw[cf];exact A)];exact kl.no he rfl rfl rfl
 ·obtain⟨s,x,rfl,hs,O⟩:=C.ty.ux A (.inr (.inl rfl));have B:=C.sub (x:=x) aas O;rw[g,i,d,bW,bW,bV nz,bV nz,bV aas,dS];simp only[Fm.cQ,Fm.ck,cD,gf,bT,qK];rcases h.room (v:=1) (k:=1) VW VW with⟨j,o,D,P⟩|⟨j,o,D⟩
  ·have j:cM p.eT 1 1=some 0:=j;have o:cG c 1 1=some 0:=o;rw[j,o,bT,bT,bV nz,bV nz,jn VW];obtain⟨p1,c1,Q,R,S,E,F⟩:=h.below hs D;obtain⟨T,U,V,W,X,Y,Z⟩:=S.with (f:=x) (by rw[E];exact B) (by rw[F];simpa using P);rw[Q,R,bT,bT,V,W,bT,bT];have hi:=J (n+3) (n'+2) VW VW T U X;rw[Y,Z,E,F] at hi;rcases hi with⟨e,he,g,i,d⟩|⟨f',G,H,g,i,d,u,r⟩
   ·rw[g,i,d,bW,bW,bX (by rw[cf];exact he),bX (by rw[cf];exact he)];exact kl.no he rfl rfl rfl
   ·obtain⟨u1,u2,u3⟩:=u.out (by have:=u.len;omega) (k:=1) VW;have u1:et H 1=some (vS ((1:Nat):Int) H):=u1;have u2:dz (G:Int) 1=some ((G/2^1:Nat):Int):=u2;obtain⟨q,v1,v2,v3,_⟩:=hu.union u3 (by have:=hu.len;omega) (by have:=u3.len;omega);rw[g,i,d,bW,bW,bV nz,bV nz,dS];simp only[];rw[uK r VW]
    rw[LW r VW _ (λy=>some (y,q,0)) (λy y1 y2 y3=>by
     rw[B3 FU y 1 (by rw[cP];omega) VW VW VW y3,bT,u1,bT,v1,bT])]
    obtain⟨w,e,hw⟩:∃w e,Bc f'=(w,e):=⟨_,_,rfl⟩;rw[hw,bW]
    by_cases he:e=0
    ·subst he;have t:=Jq r VW hs (by rw[hw]);rw[hw] at t;rw[bV nz,bX rfl,eU rfl,u2,bT,v2];exact kl.yes rfl rfl rfl v3 t.1 (by have:=t.2;omega)
    ·rw[bX (by rw[cf];exact he),bV he,gG he];exact kl.no he rfl rfl rfl
  ·have j:cM p.eT 1 1=some 3:=j;have o:cG c 1 1=some 3:=o;rw[j,o,bT,bT,bX aaq,bX aaq,iP VW];exact kl.no aaq rfl rfl rfl
def Mb{L:List Fm}{a b:Pf}{N:Nat}(M:gV L a N)(g:gV L b N):gV L (.mk 15 0 .z [] [] [a,b]) (N+5):=by
 refine gV.of λn n' hn O p c h=>?_;have P:=h.pl.nv;rw[show n'+4=n'+2+2 from rfl,S9,Mh,RM];rcases lG (M (n+2) (n'+2) VW VW p c h) 7 with⟨e,he,i,j,d⟩|⟨f,m,l,i,j,d,hu,F,C⟩
 ·rw[i,j,bW,bX (by rw[cf];exact he)];rcases d with d|⟨f,l,m,d,C,rfl,_⟩
  ·rw[d,bW,bX (by rw[cf];exact he)];exact kl.no he rfl rfl rfl
  ·rw[d,bW,bV nz,bX (by rw[cf];exact C)];exact kl.no he rfl rfl rfl
 ·obtain⟨s,x,rfl,hs,Q⟩:=F.ty.ux C (.inr (.inr (.inr rfl)));have D:=F.sub (x:=x) aas Q;rw[i,j,d,bW,bW,bV nz,bV nz,bV aas,dS];simp only[Fm.cQ,Fm.ck,cD,gf,bT,qK];rcases h.room (v:=1) (k:=1) VW VW with⟨o,r,G,R⟩|⟨o,r,G⟩
  ·have o:cM p.eT 1 1=some 0:=o;have r:cG c 1 1=some 0:=r;rw[o,r,bT,bT,bV nz,bV nz,jn VW];obtain⟨p1,H,S,T,U,I,J⟩:=h.below hs G;obtain⟨V,E,W,X,Y,Z,b5⟩:=U.with (f:=x) (by rw[I];exact D) (by rw[J];simpa using R);rw[S,T,bT,bT,W,X,bT,bT];have hi:=g (n+3) (n'+2) VW VW V E Y;rw[Z,b5,I,J] at hi;rcases hi with⟨e,he,i,j,d⟩|⟨f',B,K,i,j,d,t,u⟩
   ·rw[i,j,d,bW,bW,bX (by rw[cf];exact he),bX (by rw[cf];exact he)];exact kl.no he rfl rfl rfl
   ·obtain⟨u1,u2,u3⟩:=t.out (by have:=t.len;omega) (k:=1) VW;have u1:et K 1=some (vS ((1:Nat):Int) K):=u1;have u2:dz (B:Int) 1=some ((B/2^1:Nat):Int):=u2;obtain⟨q,v1,v2,v3,_⟩:=hu.union u3 (by have:=hu.len;omega) (by have:=u3.len;omega);rw[i,j,d,bW,bW,bV nz,bV nz,dS];simp only[];rw[uK u VW];obtain⟨H,E⟩:=t.has
    rw[LW u VW _ (λy=>if B.testBit 0 then some (eI,[],12)else some (y,q,0)) (λy y1 y2 y3=>by
     rw[H,bT,B3 FU y 1 (by rw[cP];omega) VW VW VW y3,bT,u1,bT,v1,bT])]
    obtain⟨w,e,hw⟩:∃w e,Bc f'=(w,e):=⟨_,_,rfl⟩;rw[hw,bW]
    by_cases he:e=0
    ·subst he;have A:=Jq u VW hs (by rw[hw]);rw[hw] at A;rw[bV nz,bX rfl,eU rfl,E]
     by_cases g:B.testBit 0=true
     ·rw[iP g,bX g,bX g];exact kl.no aaq rfl rfl rfl
     ·rw[jn g,bV g,bV g,u2,bT,v2];exact kl.yes rfl rfl rfl v3 A.1 (by have:=A.2;omega)
    ·rw[bX (by rw[cf];exact he),bV he,gG he];exact kl.no he rfl rfl rfl
  ·have o:cM p.eT 1 1=some 3:=o;have r:cG c 1 1=some 3:=r;rw[o,r,bT,bT,bX aaq,bX aaq,iP VW];exact kl.no aaq rfl rfl rfl
def gd.nat{g:List Ty}(h:gd g):gd (g++[.nat]):=h.app Ty.fC
def gd.lV{g:List Ty}(h:gd g):gd (g++[.lV]):=h.app Ty.nF
def zd{g:List Ty}(d:gd g){t:Tm}(f:t.err=0){s:Ty}(hs:s=.nat\/s=.lV)(h:mT t g s.ad'=0):cJ g t s:=by
 rcases tg f d with⟨e,he,q1,z,j⟩|⟨b,q1,i,a⟩
 ·unfold mT at h
  grind
 ·unfold mT at h;rw[q1] at h
  by_cases c:b.ad'=s.ad'
  ·have:b=s:=by
    rcases hs with rfl|rfl
    ·exact(tS a).1 c
    ·exact(BS a).1 c
   rwa [<-this]
  ·grind
def sS{F:Fm}(hF:F.err=0)(a:F.aef 1000000000=true){f c:Nat}(b:f<=100)(d:c<=100):da F (f:Int) (c:Int)=some (F.up f c)/\fQ FU F (f:Int) (c:Int)=some (F.up f c):=by
 obtain⟨a1,a2⟩:=Fm.d_ hF;exact⟨kn a1 VW (Fm.gT _ VW a) VW VW VW VW,yv FU F f c (by rw[cP];omega) VW VW VW VW VW (Fm.gT _ VW a)⟩
def Ac{F:Fm}(hF:F.err=0){f c:Int}(a:0<=f)(b:0<=c):(F.up f c).err=0:=by grind[Fm.d_,Fm.err,Fm.xM,Fm.lS]
def pD{F:Fm}{f:Int}:F.up f 0=F:=Fm.KJ F f
def aai:gv.err=0:=aaq
def Tw:(Tm.mk 7 0 .z []).err=0:=aaq
def Yk:(nE v0).err=0:=aaq
def WV:(Tm.mk 8 0 .z [v1,v0]).err=0:=aaq
def O7{L:List Fm}{p:cp}{c:bZ}(h:PG L p c)(hn:c.aed.length+2<=16):∃b a,dT p [.nat,.lV]=some b/\dk c [.nat,.lV]=some a/\PG L b a/\a.aed=c.aed++[.nat]++[.lV]/\a.aeg=c.aeg.map (Fm.up 0 2):=by
 obtain⟨b,a,d,e,f,g,i⟩:=h.R7 (l:=[.nat,.lV]) (λx hx=>by
  rcases jW.1 hx with rfl|hx
  ·exact Ty.fC
  ·rw[AL.1 hx];exact Ty.nF) hn
 grind
def UB(n:Nat)(c:bZ)(t:Tm)(F:Fm)(a b:Pf):cu (n+2) c (.mk 16 0 .z [t] [F] [a,b])=hU (eB (dZ c.aed [.nat])<|bU (jd (eA c.aed [.nat]) F) λe=>if(cF e 0) then some (eI,[],e)else bU (fp c t 1) λf=>if(cF f 0) then some (eI,[],f)else bU (dO 4 []) λy=>b7 (dc n c a F y) λA g=>if(cF g 0) then some (eI,[],g)else bU (cG c 1 1) λh=>if(cF h 0) then some (eI,[],h)else bU (dk c [.nat]) λi=>bU (ee i F) λj=>bU (fQ FU F 1 1) λk=>bU (dO 5 [v0]) λl=>b7 (dc n j b k l) λm d=>if(cF d 0) then some (eI,[],d)else b7 (hZ F t) λo p=>bU (iQ t) λq=>bU (en q A) λr=>bU (et m 1) λs=>bU (en r s) λu=>some (o,u,p)) λv w x=>some (v,w,x):=by
 rw[cu];rw[nQ];rfl
def T3(n:Nat)(c:bZ)(t:Tm)(F:Fm)(a b:Pf):cu (n+2) c (.mk 17 0 .z [t] [F] [a,b])=hU (eB (dZ c.aed [.lV])<|bU (jd (eA c.aed [.lV]) F) λe=>if(cF e 0) then some (eI,[],e)else bU (fp c t 2) λf=>if(cF f 0) then some (eI,[],f)else bU (dO 7 []) λA=>b7 (dc n c a F A) λB g=>if(cF g 0) then some (eI,[],g)else bU (cG c 2 1) λh=>if(cF h 0) then some (eI,[],h)else bU (dk c [.nat,.lV]) λi=>bU (fQ FU F 1 1) λj=>bU (ee i j) λk=>bU (fQ FU F 1 2) λl=>bU (dO 8 [v1,v0]) λm=>b7 (dc n k b l m) λo d=>if(cF d 0) then some (eI,[],d)else b7 (hZ F t) λp q=>bU (iQ t) λr=>bU (en r B) λs=>bU (et o 2) λu=>bU (en s u) λv=>some (p,v,q)) λw x y=>some (w,x,y):=by
 rw[cu];rw[l8];rfl
def OK(L:List Fm)(t:Tm)(F:Fm)(a b:Pf)(g:List Ty)(hs:List Fm):ov L 16 0 .z [t] [F] (Pf.sN L [a,b]) g hs=jk (F.ti (g++[.nat])) (jk (mT t g 1) (pbind (B9 (a.inf L g hs) F gv) λ_ m=>uk (16<g.length+1\/16<hs.length+1) 3 (pbind (B9 (b.inf L (g++[.nat]) (hs.map (Fm.up 0 1)++[F])) (F.up 1 1) (nE v0)) λ_ n=>jk (k4 F t).2 (.inl ((k4 F t).1,(pX t|||m)|||n/2))))):=rfl
def OA(L:List Fm)(t:Tm)(F:Fm)(a b:Pf)(g:List Ty)(hs:List Fm):ov L 17 0 .z [t] [F] (Pf.sN L [a,b]) g hs=jk (F.ti (g++[.lV])) (jk (mT t g 2) (pbind (B9 (a.inf L g hs) F (.mk 7 0 .z [])) λ_ m=>uk (16<g.length+2\/16<hs.length+1) 3 (pbind (B9 (b.inf L (g++[.nat]++[.lV]) (hs.map (Fm.up 0 2)++[F.up 1 1])) (F.up 1 2) (.mk 8 0 .z [v1,v0])) λ_ n=>jk (k4 F t).2 (.inl ((k4 F t).1,(pX t|||m)|||n/4))))):=rfl
def T8(n:Nat)(L:List Fm)(t:Tm)(F:Fm)(a b:Pf)(p:cp):oU (n+1) L (.mk 16 0 .z [t] [F] [a,b]) p=bU (eW p.aed [.nat]) λs=>bU (cR FU s F) λd=>if(cF d 0) then some (⟨eI,0⟩,d)else bU (iw p.aed t 1) λe=>if(cF e 0) then some (⟨eI,0⟩,e)else b7 (c6 n L a p F gv) λu f=>if(cF f 0) then some (⟨eI,0⟩,f)else bU (cM p.eT 1 1) λg=>if(cF g 0) then some (⟨eI,0⟩,g)else bU (dT p [.nat]) λh=>bU (da F 1 (dh .i64 1 1)) λi=>bU (ef h i) λj=>bU (da F 1 1) λk=>b7 (c6 n L b j k (nE v0)) λl c=>if(cF c 0) then some (⟨eI,0⟩,c)else b7 (hE F t) λm o=>bU (jS t) λq=>bU (dz l.eX 1) λr=>some (⟨m,xV .u32 (xV .u32 q u.eX) r⟩,o):=by
 rfl
def Ux(n:Nat)(L:List Fm)(t:Tm)(F:Fm)(a b:Pf)(p:cp):oU (n+1) L (.mk 17 0 .z [t] [F] [a,b]) p=bU (eW p.aed [.lV]) λs=>bU (cR FU s F) λd=>if(cF d 0) then some (⟨eI,0⟩,d)else bU (iw p.aed t 2) λe=>if(cF e 0) then some (⟨eI,0⟩,e)else b7 (c6 n L a p F (.mk 7 0 .z [])) λu f=>if(cF f 0) then some (⟨eI,0⟩,f)else bU (cM p.eT 2 1) λg=>if(cF g 0) then some (⟨eI,0⟩,g)else bU (dT p [.nat,.lV]) λh=>bU (da F 1 (dh .i64 2 1)) λi=>bU (ef h i) λj=>bU (da F 1 2) λk=>b7 (c6 n L b j k (.mk 8 0 .z [v1,v0])) λl c=>if(cF c 0) then some (⟨eI,0⟩,c)else b7 (hE F t) λm o=>bU (jS t) λq=>bU (dz l.eX 2) λr=>some (⟨m,xV .u32 (xV .u32 q u.eX) r⟩,o):=by
 rfl
def Nd{L:List Fm}{t:Tm}(g:t.err=0){F:Fm}(hF:F.err=0){a b:Pf}{N:Nat}(X:gV L a N)(Y:gV L b N):gV L (.mk 16 0 .z [t] [F] [a,b]) (N+5):=by
 refine gV.of λn n' hn Z p c h=>?_;have j:=h.pl.nv;have H:=h.pl.ctx;have aa:=(Fm.d_ hF).2;obtain⟨t1,t2,_⟩:=rF H.nat aaQ hF;obtain⟨s1,s2⟩:=has_both H j rfl g 1;rw[show n'+4=n'+2+2 from rfl,UB,OK,T8,h.pl.aed,qy Ty.fC VW,bT,t1,bT,de aaQ,b9,eP,t2,bT,s1,s2,bT,bT]
 by_cases o:F.ti (c.aed++[.nat])=0
 ·have r:=o;rw[<-vd (a:=_=_),<-ne_eq,<-cf] at r;rw[bV r,bV r,eU o];have d:=p6 F (Fm.d_ hF).1 _ H.nat o;have s:F.aef 1000000000=true:=d.aef _ aaQ
  by_cases u:mT t c.aed 1=0
  ·have r:=u;rw[<-vd (a:=_=_),<-ne_eq,<-cf] at r;rw[bV r,bV r,eU u];have E:cJ c.aed t .nat:=zd H g (.inl rfl) u;have K:qY c.aed F gv:=⟨hF,aai,.nat,d,.zero⟩;rw[show dO 4 []=some gv from CV,bT];rcases rb j (X (n+2) (n'+1) VW VW p c h) K with⟨e,z,l,m,he,i,x,y,hu⟩|⟨f,m,l,i,x,y,hu⟩
   ·rw[i,x,y,bW,bW,bX (by rw[cf];exact he),bX (by rw[cf];exact he)];exact kl.no he rfl rfl rfl
   ·rw[i,x,y,bW,bW,bV nz,bV nz,dS];rcases h.room (v:=1) (k:=1) VW VW with⟨A,B,U,r4⟩|⟨A,B,U⟩
    ·have A:cM p.eT 1 1=some 0:=A;have B:cG c 1 1=some 0:=B;rw[A,B,bT,bT,bV nz,bV nz,jn VW];obtain⟨p1,c1,e1,e2,e3,I,M⟩:=h.below Ty.fC U;obtain⟨p2,J,b1,b2,V,O,W⟩:=e3.with (f:=F) (by rw[I];exact⟨hF,d⟩) (by rw[M];simpa using r4)
     have l1:da F 1 (dh .i64 1 1)=some F:=by
      rw[ds VW VW];have:=(sS hF s (f:=1) (c:=0) VW VW).1;rw[show F.up ((1:Nat):Int) ((0:Nat):Int)=F from pD] at this;exact this
     have l2:da F 1 1=some (F.up 1 1):=(sS hF s (f:=1) (c:=1) VW VW).1;have l3:fQ FU F 1 1=some (F.up 1 1):=(sS hF s (f:=1) (c:=1) VW VW).2;rw[e1,e2,bT,bT,l1,bT,b1,b2,bT,bT,l2,l3,bT,bT];rw[show dO 5 [v0]=some (nE v0)from H4 aaq,bT];have hi:=Y (n+2) (n'+1) VW VW p2 J V;have P:J.aed.length<=16:=V.pl.nv
     have G:J.aed=c.aed++[.nat]:=by rw[O,I]
     have Q:qY J.aed (F.up 1 1) (nE v0):=⟨Ac hF VW VW,Yk,.nat,by
      rw[G];have:=d.up c.aed [.nat] [.nat] rfl
      simpa using this,by rw[G];exact .succ uC⟩
     rcases rb P hi Q with⟨e,z,R,S,he,i,x,y,C⟩|⟨f',S,R,i,x,y,C⟩
     ·rw[O,W,I,M] at i;rw[i,x,y,bW,bW,bX (by rw[cf];exact he),bX (by rw[cf];exact he)];exact kl.no he rfl rfl rfl
     ·rw[O,W,I,M] at i;obtain⟨lf,f1,f2,f3⟩:=vC j E g;have D:qY c.aed F t:=⟨hF,g,.nat,d,E⟩;obtain⟨u1,u2,u3⟩:=C.out (by have:=C.len;omega) (k:=1) VW;have u1:et R 1=some (vS ((1:Nat):Int) R):=u1;have u2:dz (S:Int) 1=some ((S/2^1:Nat):Int):=u2;obtain⟨q,v1,v2,v3,_⟩:=f3.union hu (by have:=f3.len;omega) (by have:=hu.len;omega);obtain⟨q',w1,w2,w3,_⟩:=v3.union u3 (by have:=v3.len;omega) (by have:=u3.len;omega);rw[i,x,y,bW,bW,bV nz,bV nz,dS,(D.both VW).1,(D.both VW).2];obtain⟨w,e,hw⟩:∃w e,k4 F t=(w,e):=⟨_,_,rfl⟩;rw[hw,bW,bW,f1,f2,bT,bT,u2,v1,bT,bT,u1,bT,w1,bT];simp only[];rw[v2,w2];rcases kZ F t with T|⟨ab,T⟩
      ·rw[T] at hw;obtain⟨rfl,rfl⟩:=fI hw;rw[gG aaq];exact kl.no aaq rfl rfl rfl
      ·rw[T] at hw;obtain⟨rfl,rfl⟩:=fI hw;rw[eU rfl];exact kl.yes (f:=Fm.eG 0 F t) rfl rfl rfl w3 D.put VW
    ·have A:cM p.eT 1 1=some 3:=A;have B:cG c 1 1=some 3:=B;rw[A,B,bT,bT,bX aaq,bX aaq,iP VW];exact kl.no aaq rfl rfl rfl
  ·rw[bX (by rw[cf];exact u),bX (by rw[cf];exact u),gG u];exact kl.no u rfl rfl rfl
 ·rw[bX (by rw[cf];exact o),bX (by rw[cf];exact o),gG o];exact kl.no o rfl rfl rfl
def Ns{L:List Fm}{t:Tm}(g:t.err=0){F:Fm}(hF:F.err=0){a b:Pf}{N:Nat}(X:gV L a N)(Y:gV L b N):gV L (.mk 17 0 .z [t] [F] [a,b]) (N+5):=by
 refine gV.of λn n' hn Z p c h=>?_;have o:=h.pl.nv;have H:=h.pl.ctx;have aa:=(Fm.d_ hF).2;obtain⟨t1,t2,_⟩:=rF H.lV aaQ hF;obtain⟨s1,s2⟩:=has_both H o rfl g 2;rw[show n'+4=n'+2+2 from rfl,T3,OA,Ux,h.pl.aed,qy Ty.nF VW,bT,t1,bT,de aaQ,b9,eP,t2,bT,s1,s2,bT,bT]
 by_cases r:F.ti (c.aed++[.lV])=0
 ·have s:=r;rw[<-vd (a:=_=_),<-ne_eq,<-cf] at s;rw[bV s,bV s,eU r];have d:=p6 F (Fm.d_ hF).1 _ H.lV r;have i:F.aef 1000000000=true:=d.aef _ aaQ
  by_cases u:mT t c.aed 2=0
  ·have s:=u;rw[<-vd (a:=_=_),<-ne_eq,<-cf] at s;rw[bV s,bV s,eU u];have E:cJ c.aed t .lV:=zd H g (.inr rfl) u;have K:qY c.aed F (.mk 7 0 .z []):=⟨hF,Tw,.lV,d,.nil⟩;rw[show dO 7 []=some (.mk 7 0 .z [])from CV,bT];rcases rb o (X (n+2) (n'+1) VW VW p c h) K with⟨e,z,l,m,he,j,x,y,hu⟩|⟨f,m,l,j,x,y,hu⟩
   ·rw[j,x,y,bW,bW,bX (by rw[cf];exact he),bX (by rw[cf];exact he)];exact kl.no he rfl rfl rfl
   ·rw[j,x,y,bW,bW,bV nz,bV nz,dS];rcases h.room (v:=2) (k:=1) VW VW with⟨A,B,U,r4⟩|⟨A,B,U⟩
    ·have A:cM p.eT 2 1=some 0:=A;have B:cG c 2 1=some 0:=B;rw[A,B,bT,bT,bV nz,bV nz,jn VW];obtain⟨p1,c1,e1,e2,e3,I,M⟩:=O7 h U;obtain⟨p2,J,b1,b2,V,O,W⟩:=e3.with (f:=F.up 1 1) (by rw[I];exact⟨Ac hF VW VW,by have:=d.up c.aed [.lV] [.nat] rfl;simpa using this⟩) (by rw[M];simpa using r4)
     have l1:da F 1 (dh .i64 2 1)=some (F.up 1 1):=by
      rw[ds VW VW];exact(sS hF i (f:=1) (c:=1) VW VW).1
     have l2:da F 1 2=some (F.up 1 2):=(sS hF i (f:=1) (c:=2) VW VW).1;have l3:fQ FU F 1 1=some (F.up 1 1):=(sS hF i (f:=1) (c:=1) VW VW).2;have l4:fQ FU F 1 2=some (F.up 1 2):=(sS hF i (f:=1) (c:=2) VW VW).2;rw[e1,e2,bT,bT,l1,bT,l3,bT,b1,b2,bT,bT,l2,l4,bT,bT];rw[show dO 8 [v1,v0]=some (.mk 8 0 .z [v1,v0])from uE aaq aaq,bT];have hi:=Y (n+2) (n'+1) VW VW p2 J V;have P:J.aed.length<=16:=V.pl.nv
     have G:J.aed=c.aed++[.nat]++[.lV]:=by rw[O,I]
     have Q:qY J.aed (F.up 1 2) (.mk 8 0 .z [v1,v0]):=⟨Ac hF VW VW,WV,.lV,by
      rw[G];have:=d.up c.aed [.lV] [.nat,.lV] rfl
      simpa using this,by rw[G];exact .cons EU uC⟩
     rcases rb P hi Q with⟨e,z,R,S,he,j,x,y,C⟩|⟨f',S,R,j,x,y,C⟩
     ·rw[O,W,I,M] at j;rw[j,x,y,bW,bW,bX (by rw[cf];exact he),bX (by rw[cf];exact he)];exact kl.no he rfl rfl rfl
     ·rw[O,W,I,M] at j;obtain⟨lf,f1,f2,f3⟩:=vC o E g;have D:qY c.aed F t:=⟨hF,g,.lV,d,E⟩;obtain⟨u1,u2,u3⟩:=C.out (by have:=C.len;omega) (k:=2) VW;have u1:et R 2=some (vS ((2:Nat):Int) R):=u1;have u2:dz (S:Int) 2=some ((S/2^2:Nat):Int):=u2;obtain⟨q,v1,v2,v3,_⟩:=f3.union hu (by have:=f3.len;omega) (by have:=hu.len;omega);obtain⟨q',w1,w2,w3,_⟩:=v3.union u3 (by have:=v3.len;omega) (by have:=u3.len;omega);rw[j,x,y,bW,bW,bV nz,bV nz,dS,(D.both VW).1,(D.both VW).2];obtain⟨w,e,hw⟩:∃w e,k4 F t=(w,e):=⟨_,_,rfl⟩;rw[hw,bW,bW,f1,f2,bT,bT,u2,v1,bT,bT,u1,bT,w1,bT];simp only[];rw[v2,w2];rcases kZ F t with T|⟨ab,T⟩
      ·rw[T] at hw;obtain⟨rfl,rfl⟩:=fI hw;rw[gG aaq];exact kl.no aaq rfl rfl rfl
      ·rw[T] at hw;obtain⟨rfl,rfl⟩:=fI hw;rw[eU rfl];exact kl.yes (f:=Fm.eG 0 F t) rfl rfl rfl w3 D.put VW
    ·have A:cM p.eT 2 1=some 3:=A;have B:cG c 2 1=some 3:=B;rw[A,B,bT,bT,bX aaq,bX aaq,iP VW];exact kl.no aaq rfl rfl rfl
  ·rw[bX (by rw[cf];exact u),bX (by rw[cf];exact u),gG u];exact kl.no u rfl rfl rfl
 ·rw[bX (by rw[cf];exact r),bX (by rw[cf];exact r),gG r];exact kl.no r rfl rfl rfl
end Go.dG
