/- Part of the proof of SchemeChains: plain facts. -/
import Derived.Test.YtpgdkkomegalnaaGreatDoorHPC1
set_option linter.all false
namespace Go.fP
open Go
def j8(a:Ty):a.lj a=true:=(Ty.lq a a).2 rfl
def me{a b:Ty}(h:a≠b):a.lj b=false:=by grind[Ty.lq]
def oP{n:Nat}{g:List Ty}:∀(l:List Tm) (i:Nat) (v:List Ty),(∀a∈l,fU n g a=some (a.ty g))->v.length+l.length<=1000->fa (λ(o:Int) (j:Tm)=>(λ(c:List Ty)=>
   dR (fU n g j) λd f=>
   if(eR f 0) then(
   some (fp.ret ((Ty.mk 0 []),f)))
   else(gq (fM c [d])<|some (.next (fW c [d])))):Int->Tm->((List Ty))->(Option (fp ((List Ty)) (Ty×Int)))) l i v=some (match Tm.vx l g with|.inl ts=>.inl (v++ts)|.inr e=>.inr (.z,e))
 |[],i,v,_,_=>by simp[Tm.vx]|a::l,i,v,h,q=>by
  simp only[kY] at q;have s:=h a abm;rw[eV,Tm.vx];rw[s]
  by_cases k:(a.ty g).2=0
  .rw[zK k,qC rfl];simp only[dP];rw[dK aal,fk abv];simp only[dU,dI,eQ];rw[oP l (i+1) _ (λb u=>h b (by simp[u])) (by rw[ig];simp;omega),ig];cases Tm.vx l g with
   |inl ts=>simp|inr e=>rfl
  .rw[qK k];generalize a.ty g=r at k;obtain⟨t,e⟩:=r;simp only[dP];rw[dO (by simpa[eR] using k)];rfl
def Br(l:List Tm)(g:List Ty):(∃e,e≠0/\Tm.vx l g=.inr e)\/∃ts,Tm.vx l g=.inl ts/\ts.length=l.length/\∀(i:Nat) (a:Tm),l[i]?=some a->∃s,ts[i]?=some s/\a.ty g=(s,0):=by
 induction l with
 |nil=>exact .inr ⟨[],by rw[Tm.vx],rfl,abm⟩|cons a l ih=>
  rw[Tm.vx]
  grind[qC,qK]
def SH{f:List Ty->Ty×Int}{e:Int}:vW f (.inr e)=(.z,e):=rfl
def o9{f:List Ty->Ty×Int}{l:List Ty}:vW f (.inl l)=f l:=rfl
def D2{a:Tm}{g:List Ty}(b:a.ok=true)(hg:jf g):(∃e,e≠0/\Tm.vx [a] g=.inr e)\/∃s,Tm.vx [a] g=.inl [s]/\s.err=0:=by
 rcases Br [a] g with h|⟨ts,c,d,f⟩
 .grind
 .obtain⟨s,j,i⟩:=f 0 a rfl
  match ts,d with
  |[x],_=>
   obtain rfl:x=s:=by grind
   exact .inr ⟨x,c,(rz _ a (gY _) b g hg _ i).2⟩
def Ea{a b:Tm}{g:List Ty}(d:a.ok=true)(f:b.ok=true)(hg:jf g):(∃e,e≠0/\Tm.vx [a,b] g=.inr e)\/∃s t,Tm.vx [a,b] g=.inl [s,t]/\s.err=0/\t.err=0:=by
 rcases Br [a,b] g with h|⟨ts,i,j,c⟩
 .exact .inl h
 .obtain⟨s,n,k⟩:=c 0 a rfl;obtain⟨t,o,l⟩:=c 1 b rfl
  match ts,j with
  |[x,y],_=>
   obtain rfl:x=s:=by grind
   obtain rfl:y=t:=by grind
   exact .inr ⟨x,y,i,(rz _ a (gY _) d g hg _ k).2,(rz _ b (gY _) f g hg _ l).2⟩
def CI{a b c:Tm}{g:List Ty}(f:a.ok=true)(i:b.ok=true)(j:c.ok=true)(hg:jf g):(∃e,e≠0/\Tm.vx [a,b,c] g=.inr e)\/∃s t u,Tm.vx [a,b,c] g=.inl [s,t,u]/\s.err=0/\t.err=0/\u.err=0:=by
 rcases Br [a,b,c] g with h|⟨ts,k,l,d⟩
 .exact .inl h
 .obtain⟨s,v,n⟩:=d 0 a rfl;obtain⟨t,w,o⟩:=d 1 b rfl;obtain⟨u,q,r⟩:=d 2 c rfl
  match ts,l with
  |[x,y,z],_=>
   obtain rfl:x=s:=by grind
   obtain rfl:y=t:=by grind
   obtain rfl:z=u:=by simpa using q
   exact .inr ⟨x,y,z,k,(rz _ a (gY _) f g hg _ n).2,(rz _ b (gY _) i g hg _ o).2,(rz _ c (gY _) j g hg _ r).2⟩
def Gs{t:Ty}(h:t.aor<=1000000000)(a:t.ok=true):uE t=some (if 64<t.aor then(.z,4)else(t,0)):=by
 unfold uE;rw[mI h];unfold Ty.err;rw[dO a]
 split
 .rfl
 .rfl
section
variable{s x y z:Ty}
def Bn:((x.aop=4/\x.aoq.getD 0 .z=y)->ib 3 s [x,y]=(x.aoq.getD 1 .z,0))/\(¬(x.aop=4/\x.aoq.getD 0 .z=y)->ib 3 s [x,y]=(.z,7)):=by
 unfold ib
 grind
def H3:(x=.nat->ib 5 s [x]=(.nat,0))/\(x≠ .nat->ib 5 s [x]=(.z,7)):=by
 unfold ib
 grind
def xz:((x=s/\y=.fn .nat (.fn s s)/\z=.nat)->ib 6 s [x,y,z]=(s,0))/\(¬(x=s/\y=.fn .nat (.fn s s)/\z=.nat)->ib 6 s [x,y,z]=(.z,7)):=by
 unfold ib
 grind
def BC:((x=.nat/\y=.uK)->ib 8 s [x,y]=(.uK,0))/\(¬(x=.nat/\y=.uK)->ib 8 s [x,y]=(.z,7)):=by
 unfold ib
 grind
def xj:((x=s/\y=.fn .nat (.fn .uK (.fn s s))/\z=.uK)->ib 9 s [x,y,z]=(s,0))/\(¬(x=s/\y=.fn .nat (.fn .uK (.fn s s))/\z=.uK)->ib 9 s [x,y,z]=(.z,7)):=by
 unfold ib
 grind
def Qs:ib 10 s [x,y]=if 64<1+x.aor+y.aor then(.z,4)else(.pr x y,0):=by
 rfl
def Rf:ib 11 s [x]=if x.aop=3 then(x.aoq.getD 0 .z,0)else(.z,7):=by
 rfl
def RL:ib 12 s [x]=if x.aop=3 then(x.aoq.getD 1 .z,0)else(.z,7):=by
 rfl
end
def Ae:∀(n:Nat) (t:Tm),t.aor<=n->t.ok=true->∀g,jf g->g.length+t.aor<=1000000->fU n g t=some (t.ty g):=by
 intro n
 induction n with
 |zero=>intro t h;have:=t.eF;omega
 |succ n ih=>
  intro t hn M;refine Tm.nw (p:=λt=>t.aor<=n+1->∀g,jf g->g.length+t.aor<=1000000->fU (n+1) g t=some (t.ty g)) ?_ ?_ ?_ ?_ ?_ ?_ ?_ ?_ ?_ ?_ ?_ ?_ ?_ t M hn
  .intro i _ g hg k;rw[Tm.dL] at k;rw[fU,dO abE,Tm.nt,dO rfl]
   by_cases hi:(i:Int)<(g.length:Int)
   .rw[dK (by simp only[Tm.gn,fV,ju];omega),dO hi];simp only[Tm.gn,fV];rw[fF (a:=(g.length:Int)) VW VW,fF VW VW]
    have w:g.length-1-i<g.length:=VW
    have:dW g ((g.length:Int)-1-(i:Int))=some g[g.length-1-i]:=by
     unfold dW;rw[dO VW,show((g.length:Int)-1-(i:Int)).toNat=g.length-1-i by omega,pE w]
    rw[this];simp only[dI];have G:=hg _ (Ek w);rw[jM (by have:=fI G;omega)];simp only[dI,BS];rw[A2,pE w];rfl
   .rw[dO (by simp only[Tm.gn,fV,ju];omega),dK hi];rfl
  .intro s b hs k hn g hg d;rw[Tm.dL] at hn d;simp only[ee] at hn d;rw[fU,dK abm,dO abE,Tm.nt,dK aal,dO rfl,Tm.tyH];simp only[Tm.fx,Tm.ey,eO,jW,dI,ig];rw[fk abv,dU,ih b VW k (g++[s]) (hg.app hs) abv];have K:=λh=>(rz _ b (gY _) k (g++[s]) (hg.app hs) (b.ty (g++[s])).1 (zK h)).2;generalize b.ty (g++[s])=q at K;obtain⟨r,e⟩:=q;simp only[dP,QF]
   by_cases H:e=0
   .subst H;have L:r.err=0:=K rfl;have I:=fI hs;have N:=fI L;rw[dK aal,dK abm,jz VW VW];simp only[dI];rw[Gs (t:=Ty.fn s r) (by rw[Ty.kj];omega) (Ty.ok_two (.inr rfl) (Ty.il hs).1 (Ty.il L).1),Ty.kj]
    split<;>rfl
   .rw[dO (by simpa[eR] using H),dO H];rfl
  .intro a b j k hn g hg d;rw[Tm.dL] at hn d;simp only[ee] at hn d;rw[fU,dK abm,dK abm,Tm.nt,dK aal,dK aal];simp only[dY,Tm.ey,ei (l:=[a,b]) abm,dU];rw[oP [a,b] 0 [] (by intro x f;simp at f;rcases f with rfl|rfl<;>first|exact ih _ VW j g hg VW|exact ih _ VW k g hg VW) abm];rcases Ea j k hg with⟨e,he,h⟩|⟨s,t,h,hs,D⟩
   .rw[h];rfl
   .rw[h,o9];simp only[dI,ew,gB,gQ];rw[dO abE];simp only[n9,eO,gy,jW,nJ,dI]
    by_cases o:s.aop=4
    .obtain⟨x,y,rfl,f,hy⟩:=Oi hs o;rw[dK (by simp[Ty.fn,eR]),show(Ty.fn x y).aoq[0]?=some x from rfl];simp only[dI];rw[im (by have:=fI f;omega)];simp only[dI]
     by_cases A:x=t
     .subst A;rw[j8,dK aal,show(Ty.fn x y).aoq[1]?=some y from rfl,(Bn (x:=.fn x y) (y:=x)).1 ⟨rfl,rfl⟩];rfl
     .rw[me A,dO aal,(Bn (x:=.fn x y) (y:=t)).2 (λh=>A h.2)];rfl
    .rw[dO (by simpa[eR] using o),dO trivial,Bn.2 (λh=>o h.1)];rfl
  .intro hn g hg d;rw[Tm.nt,dK aal,dK aal,Tm.vx];rfl
  .intro a j hn g hg d;rw[Tm.dL] at hn d;simp only[ee] at hn d;rw[fU,dK abm,dK abm,Tm.nt,dK aal,dK aal];simp only[dY,Tm.ey,ei (l:=[a]) abm,dU];rw[oP [a] 0 [] (by intro x f;simp at f;subst f;exact ih _ VW j g hg VW) abm];rcases D2 j hg with⟨e,he,h⟩|⟨s,h,hs⟩
   .rw[h];rfl
   .rw[h,o9];simp only[dI,ew,gB,gQ];rw[dK abm,dK abm,dO abE];simp only[n9,eO,jW,dI];rw[im (by have:=fI hs;omega)];simp only[dI]
    by_cases B:s=.nat
    .subst B;rw[j8,dO rfl,H3.1 rfl]
    .rw[me B,dK aal,H3.2 B];rfl
  .intro s a b c hs j k F hn g hg d;rw[Tm.dL] at hn d;simp only[ee] at hn d;rw[fU,dK abm,dK abm,Tm.nt,dK aal,dK aal];simp only[dY,Tm.ey,ei (l:=[a,b,c]) abm,dU];rw[oP [a,b,c] 0 [] (by intro x f;simp at f;rcases f with rfl|rfl|rfl<;>first|exact ih _ VW j g hg VW|exact ih _ VW k g hg VW|exact ih _ VW F g hg VW) abm];rcases CI j k F hg with⟨e,he,h⟩|⟨x,y,z,h,f,hy,J⟩
   .rw[h];rfl
   .have I:=fI hs;rw[h,o9];simp only[dI,ew,gB,gQ];rw[dK abm,dK abm,dK abm,dO abE];simp only[n9,eO,gy,jk,jW,nJ,dI,Tm.fx];rw[im (by have:=fI f;omega)];simp only[dI]
    by_cases u:x=s
    .subst u;rw[j8,dO rfl,jz VW VW];simp only[dI];rw[jz (by rw[Ty.ie];omega) (by rw[Ty.kj];omega)];simp only[dI];rw[im (by have:=fI hy;omega)];simp only[dI]
     by_cases v:y=.fn .nat (.fn x x)
     .subst v;rw[j8,dO rfl,im (by have:=fI J;omega)];simp only[dI]
      by_cases C:z=.nat
      .subst C;rw[j8,dK aal,jM VW,xz.1 ⟨rfl,rfl,rfl⟩];rfl
      .rw[me C,dO aal,xz.2 (λh=>C h.2.2)];rfl
     .rw[me v,dK aal,dO trivial,xz.2 (λh=>v h.2.1)];rfl
    .rw[me u,dK aal,dO trivial,xz.2 (λh=>u h.1)];rfl
  .intro hn g hg d;rw[Tm.nt,dK aal,dK aal,Tm.vx];rfl
  .intro a b j k hn g hg d;rw[Tm.dL] at hn d;simp only[ee] at hn d;rw[fU,dK abm,dK abm,Tm.nt,dK aal,dK aal];simp only[dY,Tm.ey,ei (l:=[a,b]) abm,dU];rw[oP [a,b] 0 [] (by intro x f;simp at f;rcases f with rfl|rfl<;>first|exact ih _ VW j g hg VW|exact ih _ VW k g hg VW) abm];rcases Ea j k hg with⟨e,he,h⟩|⟨s,t,h,hs,D⟩
   .rw[h];rfl
   .rw[h,o9];simp only[dI,ew,gB,gQ];rw[dK abm,dK abm,dK abm,dK abm,dK abm,dO abE];simp only[n9,eO,gy,jW,nJ,dI];rw[im (by have:=fI hs;omega)];simp only[dI]
    by_cases u:s=.nat
    .subst u;rw[j8,dO rfl,im (by have:=fI D;omega)];simp only[dI]
     by_cases v:t=.uK
     .subst v;rw[j8,dK aal,BC.1 ⟨rfl,rfl⟩]
     .rw[me v,dO aal,BC.2 (λh=>v h.2)];rfl
    .rw[me u,dK aal,dO trivial,BC.2 (λh=>u h.1)];rfl
  .intro s a b c hs j k F hn g hg d;rw[Tm.dL] at hn d;simp only[ee] at hn d;rw[fU,dK abm,dK abm,Tm.nt,dK aal,dK aal];simp only[dY,Tm.ey,ei (l:=[a,b,c]) abm,dU];rw[oP [a,b,c] 0 [] (by intro x f;simp at f;rcases f with rfl|rfl|rfl<;>first|exact ih _ VW j g hg VW|exact ih _ VW k g hg VW|exact ih _ VW F g hg VW) abm];rcases CI j k F hg with⟨e,he,h⟩|⟨x,y,z,h,f,hy,J⟩
   .rw[h];rfl
   .have I:=fI hs;rw[h,o9];simp only[dI,ew,gB,gQ];rw[dK abm,dK abm,dK abm,dK abm,dK abm,dK abm,dO abE];simp only[n9,eO,gy,jk,jW,nJ,dI,Tm.fx];rw[im (by have:=fI f;omega)];simp only[dI]
    by_cases u:x=s
    .subst u;rw[j8,dO rfl,jz VW VW];simp only[dI];rw[jz (by rw[Ty.pI];omega) (by rw[Ty.kj];omega)];simp only[dI];rw[jz (by rw[Ty.ie];omega) (by rw[Ty.kj,Ty.kj,Ty.pI];omega)];simp only[dI];rw[im (by have:=fI hy;omega)];simp only[dI]
     by_cases v:y=.fn .nat (.fn .uK (.fn x x))
     .subst v;rw[j8,dO rfl,im (by have:=fI J;omega)];simp only[dI]
      by_cases C:z=.uK
      .subst C;rw[j8,dK aal,jM VW,xj.1 ⟨rfl,rfl,rfl⟩];rfl
      .rw[me C,dO aal,xj.2 (λh=>C h.2.2)];rfl
     .rw[me v,dK aal,dO trivial,xj.2 (λh=>v h.2.1)];rfl
    .rw[me u,dK aal,dO trivial,xj.2 (λh=>u h.1)];rfl
  .intro a b j k hn g hg d;rw[Tm.dL] at hn d;simp only[ee] at hn d;rw[fU,dK abm,dK abm,Tm.nt,dK aal,dK aal];simp only[dY,Tm.ey,ei (l:=[a,b]) abm,dU];rw[oP [a,b] 0 [] (by intro x f;simp at f;rcases f with rfl|rfl<;>first|exact ih _ VW j g hg VW|exact ih _ VW k g hg VW) abm];rcases Ea j k hg with⟨e,he,h⟩|⟨s,t,h,hs,D⟩
   .rw[h];rfl
   .have I:=fI hs;have N:=fI D;rw[h,o9];simp only[dI,ew,gB,gQ];rw[dK abm,dK abm,dK abm,dK abm,dK abm,dK abm,dK abm,dO abE];simp only[n9,eO,gy,jW,nJ,dI];rw[zq VW VW];simp only[dI];rw[Gs (t:=Ty.pr s t) (by rw[Ty.wh];omega) (Ty.ok_two (.inl rfl) (Ty.il hs).1 (Ty.il D).1),Ty.wh];rw[Qs]
    split<;>rfl
  .intro a j hn g hg d;rw[Tm.dL] at hn d;simp only[ee] at hn d;rw[fU,dK abm,dK abm,Tm.nt,dK aal,dK aal];simp only[dY,Tm.ey,ei (l:=[a]) abm,dU];rw[oP [a] 0 [] (by intro x f;simp at f;subst f;exact ih _ VW j g hg VW) abm];rcases D2 j hg with⟨e,he,h⟩|⟨s,h,hs⟩
   .rw[h];rfl
   .rw[h,o9];simp only[dI,ew,gB,gQ];rw[dK abm,dK abm,dK abm,dK abm,dK abm,dK abm,dK abm,dK abm,dO abE];simp only[n9,eO,jW,dI];rw[Rf]
    by_cases o:s.aop=3
    .obtain⟨x,y,rfl,f,hy⟩:=Bv hs o;rw[dK (by simp[Ty.pr,eR]),dO abE,dO (show(Ty.pr x y).aop=3 from rfl)];rfl
    .rw[dO (by simpa[eR] using o),dK o];rfl
  .intro a j hn g hg d;rw[Tm.dL] at hn d;simp only[ee] at hn d;rw[fU,dK abm,dK abm,Tm.nt,dK aal,dK aal];simp only[dY,Tm.ey,ei (l:=[a]) abm,dU];rw[oP [a] 0 [] (by intro x f;simp at f;subst f;exact ih _ VW j g hg VW) abm];rcases D2 j hg with⟨e,he,h⟩|⟨s,h,hs⟩
   .rw[h];rfl
   .rw[h,o9];simp only[dI,ew,gB,gQ];rw[dK abm,dK abm,dK abm,dK abm,dK abm,dK abm,dK abm,dK abm,dO abE];simp only[n9,eO,jW,dI];rw[RL]
    by_cases o:s.aop=3
    .obtain⟨x,y,rfl,f,hy⟩:=Bv hs o;rw[dK (by simp[Ty.pr,eR]),dK abm,dO (show(Ty.pr x y).aop=3 from rfl)];rfl
    .rw[dO (by simpa[eR] using o),dK o];rfl
  .intro hn g hg d;rw[Tm.nt,dK aal,dK aal,Tm.vx];rfl
end Go.fP
namespace Go.fP
open Go
def LD:gR=fO:=by
 funext n
 induction n with
 |zero=>rfl|succ n ih=>
  funext a b
  rw[gR,fO,ih]
def qh{a b:Ty}(h:a.aor<=1000000000):gR FU a b=some (a.lj b):=by rw[LD];exact im h
def pZ(t:Ty):dN:=⟨t,(t.aor:Int)⟩
def XJ:dN:=⟨.mk 0 [],0⟩
def MJ(r:Ty×Int):dN×Int:=if r.2=0 then(pZ r.1,0)else(XJ,r.2)
@[simp] theorem q9(t:Ty):MJ (t,0)=(pZ t,0):=dO rfl
def nT{t:Ty}{e:Int}(h:e≠0):MJ (t,e)=(XJ,e):=dK h
@[simp] theorem vB(t:Ty):(pZ t).dM=t:=by rfl
@[simp] theorem MW(t:Ty):(pZ t).aor=(t.aor:Int):=by rfl
def mi{t:Ty}(h:t.err=0):m0 t=some (pZ t):=by
 unfold m0;rw[lQ (by have:=fI h;omega),dO h];rfl
def Bg(k:Int){a b:Ty}(c:a.aor<=1000000)(d:b.aor<=1000000):si k (pZ a) (pZ b)=some (if 64<1+a.aor+b.aor then(XJ,4)else(pZ (.mk k [a,b]),0)):=by
 unfold si;simp only[MW,vB];rw[e9 (a:=1) VW VW,e9 VW VW]
 by_cases h:64<1+a.aor+b.aor
 .rw[dO (by simp only[hJ];omega),dO h];rfl
 .rw[dK (by simp only[hJ];omega),dK h];unfold pZ;rw[Ty.sk]
  congr 3
def wS{a b:Ty}(c:a.aor<=1000000):kP (pZ a) (pZ b)=some (a.lj b):=by
 unfold kP;simp only[dY,MW,vB]
 by_cases h:(a.aor:Int)=(b.aor:Int)
 .rw[dO (by simpa[eo] using h),qh VW];rfl
 .rw[dK (by simpa[eo] using h),me (by rintro rfl;exact h rfl)]
def sy{t x:Ty}{i:Int}(h:dW t.aoq i=some x)(a:x.err=0):jD (pZ t) i=some (pZ x):=by
 unfold jD;simp only[vB,h,dI,mi a]
def xy:ot=some .nat:=rfl
def NL:BH=some .uK:=rfl
def aa_{l:List Ty}(d:l.length<=1000):∀(i m:Nat) (k:Int) (as:List Ty),i<=l.length->i<m->jL ((T3 λ(a:Int) (v49:Int) (b:List Ty)=>
   if(qz a 0) then(
   dH (dW l a) λc=>
   some (.next ((fD .i64 a 1),4,[c,(Ty.mk v49 b)])))
   else(some (.xA (a,v49,b)))):(Int×Int×(List Ty))->(Option (fp (Int×Int×(List Ty)) (Ty)))) m ((i:Int)-1,k,as)=some (.inl (-1,((l.take i).foldr Ty.fn (.mk k as)).aop,((l.take i).foldr Ty.fn (.mk k as)).aoq))
 |0,m+1,k,as,_,_=>by
  rw[gM];simp only[T3];rw[dK (by rw[ju];omega)];rfl
 |i+1,m+1,k,as,hi,hm=>by
  rw[gM];simp only[T3];rw[dO (by rw[ju];omega),show((i+1:Nat):Int)-1=(i:Int) by omega,gS,pE VW];simp only[dI,eQ];rw[fF VW VW];have h:=aa_ d i m 4 [l[i],.mk k as] VW VW;rw[h,ahQ,pE VW];simp only[akE,akp,List.foldr_cons,List.foldr_nil];rfl
def GH(t:Ty)(l:List Ty)(a:l.length<=1000):uu t l=some (l.foldr Ty.fn t):=by
 unfold uu;simp only[dY];rw[fV,fF VW VW];have h:=aa_ a l.length FU t.aop t.aoq (gY _) (afK VW);rw[h,dI];rw[List.take_length]
 have e:Ty.mk t.aop t.aoq=t:=by cases t;rfl
 rw[e];generalize List.foldr Ty.fn t l=r;cases r;rfl
def Wk(a b t:Ty):uu t [a,b]=some (.fn a (.fn b t)):=GH t [a,b] abm
def WZ(a b c t:Ty):uu t [a,b,c]=some (.fn a (.fn b (.fn c t))):=GH t [a,b,c] abm
def tZ:List Ty->dN×dN×dN
 |[]=>(XJ,XJ,XJ)|[a]=>(pZ a,XJ,XJ)|[a,b]=>(pZ a,pZ b,XJ)|a::b::c::_=>(pZ a,pZ b,pZ c)
def Gr(x:dN)(k:Int):jr x k=some (eo x.dM.aop k):=rfl
def GB(t:Ty)(k:Int):eo (pZ t).dM.aop k=decide (t.aop=k):=by
 rw[vB];exact vd _ _
def GZ(s:Ty)(l:List Tm)(i:Int):qm (.mk 6 i s l)=some (.fn .nat (.fn s s)):=by
 unfold qm;rw[dK abm];simp only[xy,dI];rw[Wk];rfl
def FZ(s:Ty)(l:List Tm)(i:Int):qm (.mk 9 i s l)=some (.fn .nat (.fn .uK (.fn s s))):=by
 unfold qm;rw[dO abm];simp only[xy,NL,dI];rw[WZ];rfl
section
variable{s x y z:Ty} {i:Int} {l:List Tm}
def Z9(j:x.err=0)(hy:y.err=0):gx (.mk 3 i s l) (tZ [x,y])=some (MJ (ib 3 s [x,y])):=by
 unfold gx;rw[show jX (Tm.mk 3 i s l).aop=some [] from rfl];simp only[dI];rw[dK abm,dO abE];simp only[dY,tZ,Gr,dI,GB]
 by_cases d:x.aop=4
 .obtain⟨a,b,rfl,f,k⟩:=Oi j d;rw[dO abE,sy (t:=.fn a b) (x:=a) rfl f];simp only[dI];rw[wS (by have:=fI f;omega)];simp only[dI]
  by_cases c:a=y
  .subst c;rw[j8,dK abm,sy (t:=.fn a b) (x:=b) rfl k,(Bn (x:=.fn a b) (y:=a)).1 ⟨rfl,rfl⟩];simp only[dI];rw[show(Ty.fn a b).aoq.getD 1 .z=b from rfl,q9]
  .rw[me c,dO abm,(Bn (x:=.fn a b) (y:=y)).2 (λh=>c h.2),nT aal];rfl
 .rw[dK (by simpa using d),dO trivial,Bn.2 (λh=>d h.1),nT aal];rfl
def WE(a:x.err=0)(hy:y.err=0):gx (.mk 10 i s l) (tZ [x,y])=some (MJ (ib 10 s [x,y])):=by
 unfold gx;rw[show jX (Tm.mk 10 i s l).aop=some [] from rfl];simp only[dI];rw[dK abm,dK abm,dK abm,dO abE];simp only[tZ];rw[Bg 3 (by have:=fI a;omega) (by have:=fI hy;omega),Qs]
 split
 .simp only[dP];rw[nT aal]
 .simp only[dP];rw[q9];rfl
def Yp(d:x.err=0):gx (.mk 11 i s l) (tZ [x])=some (MJ (ib 11 s [x])):=by
 unfold gx;rw[show jX (Tm.mk 11 i s l).aop=some [] from rfl];simp only[dI];rw[dK abm,dK abm,dK abm,dK abm];simp only[tZ,Gr,dI,GB];rw[Rf]
 by_cases c:x.aop=3
 .obtain⟨a,b,rfl,f,h⟩:=Bv d c;rw[dO abE,dO abE,sy (t:=.pr a b) (x:=a) rfl f,dO (show(Ty.pr a b).aop=3 from rfl)];simp only[dI];rw[show(Ty.pr a b).aoq.getD 0 .z=a from rfl,q9]
 .rw[dK (by simpa using c),dK c,nT aal];rfl
def Z7(d:x.err=0):gx (.mk 12 i s l) (tZ [x])=some (MJ (ib 12 s [x])):=by
 unfold gx;rw[show jX (Tm.mk 12 i s l).aop=some [] from rfl];simp only[dI];rw[dK abm,dK abm,dK abm,dK abm];simp only[tZ,Gr,dI,GB];rw[RL]
 by_cases c:x.aop=3
 .obtain⟨a,b,rfl,h,f⟩:=Bv d c;rw[dO abE,dK abm,sy (t:=.pr a b) (x:=b) rfl f,dO (show(Ty.pr a b).aop=3 from rfl)];simp only[dI];rw[show(Ty.pr a b).aoq.getD 1 .z=b from rfl,q9]
 .rw[dK (by simpa using c),dK c,nT aal];rfl
end
end Go.fP
namespace Go.fP
open Go
section
variable{s x y z:Ty} {i:Int} {l:List Tm}
def A3{k t:Int}(a:jX k=some [t])(b:Ty.err (.mk t [])=0):gx (.mk k i s l) (tZ [])=some (pZ (.mk t []),0):=by
 unfold gx;rw[show(Tm.mk k i s l).aop=k from rfl,a,dI,dO (show pw (eE [t]) 0=true by rfl),show tD [t] 1 (eE [t])=some ([]:List Int)from rfl];simp only[dI,ei (l:=([]:List Int)) abm,dU,dY,oz,ew,eO,jW];rw[mi b];rfl
def WT:gx (.mk 4 i s l) (tZ [])=some (MJ (ib 4 s [])):=A3 rfl Ty.gC
def aab:gx (.mk 7 i s l) (tZ [])=some (MJ (ib 7 s [])):=A3 rfl Ty.sO
def Wt:gx (.mk 13 i s l) (tZ [])=some (MJ (ib 13 s [])):=A3 rfl Ty.Js
def Xu(b:x.err=0):gx (.mk 5 i s l) (tZ [x])=some (MJ (ib 5 s [x])):=by
 unfold gx;rw[show jX (Tm.mk 5 i s l).aop=some [1,1] from rfl,dI,dO (show pw (eE ([1,1]:List Int)) 0=true by rfl),show tD ([1,1]:List Int) 1 (eE ([1,1]:List Int))=some [1] from rfl];simp only[dI,ei (l:=([1]:List Int)) abm,dU,dY,tZ];rw[eV,dO abE];simp only[Gr,dI,GB]
 by_cases a:x.aop=1
 .have hn:=(vY b).1 a;subst hn;rw[xG abE,dK aal];simp only[dI,eQ,oz,ew,eO,jW];rw[show m0 (Ty.mk 1 [])=some (pZ .nat)from mi Ty.gC,H3.1 rfl,q9];rfl
 .rw[KG a,dO aal,H3.2 (λh=>a ((vY b).2 h)),nT aal];rfl
def VX(c:x.err=0)(hy:y.err=0):gx (.mk 8 i s l) (tZ [x,y])=some (MJ (ib 8 s [x,y])):=by
 unfold gx;rw[show jX (Tm.mk 8 i s l).aop=some [2,1,2] from rfl,dI,dO (show pw (eE ([2,1,2]:List Int)) 0=true by rfl),show tD ([2,1,2]:List Int) 1 (eE ([2,1,2]:List Int))=some [1,2] from rfl];simp only[dI,ei (l:=([1,2]:List Int)) abm,dU,dY,tZ];rw[eV,dO abE];simp only[Gr,dI,GB]
 by_cases b:x.aop=1
 .have hn:=(vY c).1 b;subst hn;rw[xG abE,dK aal];simp only[dI,eQ];rw[eV,dK aal,dO abE]
  by_cases a:y.aop=2
  .have hn:=(ES hy).1 a;subst hn;rw[xG abE,dK aal];simp only[dI,eQ,oz,ew,eO,jW];rw[show m0 (Ty.mk 2 [])=some (pZ .uK)from mi Ty.sO,BC.1 ⟨rfl,rfl⟩,q9];rfl
  .rw[KG a,dO aal,BC.2 (λh=>a ((ES hy).2 h.2)),nT aal];rfl
 .rw[KG b,dO aal,BC.2 (λh=>b ((vY c).2 h.1)),nT aal];rfl
def YM(hs:s.err=0)(d:x.err=0)(hy:y.err=0)(f:z.err=0):gx (.mk 6 i s l) (tZ [x,y,z])=some (MJ (ib 6 s [x,y,z])):=by
 unfold gx;rw[show jX (Tm.mk 6 i s l).aop=some [] from rfl];simp only[dI];rw[dK aal,dK abm,dO abE];simp only[dY,tZ,Tm.fx,mi hs,dI];rw[wS (by have:=fI d;omega)];simp only[dI]
 by_cases a:x=s
 .subst a;rw[j8,dO rfl,GZ];simp only[dI,vB];rw[qh (by have:=fI hy;omega)];simp only[dI]
  by_cases b:y=.fn .nat (.fn x x)
  .subst b;rw[j8,dO rfl];simp only[Gr,dI];rw[show fq (eo (Tm.mk 6 i x l).aop 9) (2:Int) 1=1 from rfl];simp only[GB]
   by_cases c:z=.nat
   .subst c;rw[xG abE,dK aal,xz.1 ⟨rfl,rfl,rfl⟩,q9]
   .rw[KG (λh=>c ((vY f).1 h)),dO aal,xz.2 (λh=>c h.2.2),nT aal];rfl
  .rw[me b,dK aal,dO trivial,xz.2 (λh=>b h.2.1),nT aal];rfl
 .rw[me a,dK aal,dO trivial,xz.2 (λh=>a h.1),nT aal];rfl
def Xl(hs:s.err=0)(d:x.err=0)(hy:y.err=0)(f:z.err=0):gx (.mk 9 i s l) (tZ [x,y,z])=some (MJ (ib 9 s [x,y,z])):=by
 unfold gx;rw[show jX (Tm.mk 9 i s l).aop=some [] from rfl];simp only[dI];rw[dK aal,dK abm,dO abE];simp only[dY,tZ,Tm.fx,mi hs,dI];rw[wS (by have:=fI d;omega)];simp only[dI]
 by_cases a:x=s
 .subst a;rw[j8,dO rfl,FZ];simp only[dI,vB];rw[qh (by have:=fI hy;omega)];simp only[dI]
  by_cases b:y=.fn .nat (.fn .uK (.fn x x))
  .subst b;rw[j8,dO rfl];simp only[Gr,dI];rw[show fq (eo (Tm.mk 9 i x l).aop 9) (2:Int) 1=2 from rfl];simp only[GB]
   by_cases c:z=.uK
   .subst c;rw[xG abE,dK aal,xj.1 ⟨rfl,rfl,rfl⟩,q9]
   .rw[KG (λh=>c ((ES f).1 h)),dO aal,xj.2 (λh=>c h.2.2),nT aal];rfl
  .rw[me b,dK aal,dO trivial,xj.2 (λh=>b h.2.1),nT aal];rfl
 .rw[me a,dK aal,dO trivial,xj.2 (λh=>a h.1),nT aal];rfl
end
def st9(p:dN×dN×dN):Int×(List Ty)×Int×Int×(List Ty)×Int×Int×(List Ty)×Int:=
 (p.1.dM.aop,p.1.dM.aoq,p.1.aor,p.2.1.dM.aop,p.2.1.dM.aoq,p.2.1.aor,p.2.2.dM.aop,p.2.2.dM.aoq,p.2.2.aor)
def Gt{n:Nat}{g:List Ty}:∀(l:List Tm) (d:List Ty),d.length+l.length<=3->(∀a∈l,eU n (g.map pZ) a=some (MJ (a.ty g)))->fa (λ(f:Int) (A:Tm)=>(un9 λ(i:Int) (j:List Ty) (v218:Int) (k:Int) (o:List Ty) (q:Int) (v222:Int) (s:List Ty) (w:Int)=>
   dR (eU n (g.map pZ) A) λc x=>
   if(eR x 0) then(
   some (.ret ((dN.mk (Ty.mk 0 []) 0),x)))
   else(if(eo f 0) then(
   some (.next (c.dM.aop,c.dM.aoq,c.aor,k,o,q,v222,s,w)))
   else(if(eo f 1) then(
   some (.next (i,j,v218,c.dM.aop,c.dM.aoq,c.aor,v222,s,w)))
   else(gq (eo f 2)<|some (.next (i,j,v218,k,o,q,c.dM.aop,c.dM.aoq,c.aor)))))):Int->Tm->(Int×(List Ty)×Int×Int×(List Ty)×Int×Int×(List Ty)×Int)->(Option (fp (Int×(List Ty)×Int×Int×(List Ty)×Int×Int×(List Ty)×Int) (dN×Int)))) l d.length (st9 (tZ d))=some (match Tm.vx l g with|.inl ts=>.inl (st9 (tZ (d++ts)))|.inr e=>.inr (XJ,e))
 |[],d,_,_=>by simp[Tm.vx]|a::l,d,B,h=>by
  simp only[kY] at B;rw[eV,Tm.vx];have D:=h a abm;simp only[st9,un9];rw[D]
  by_cases y:(a.ty g).2=0
  .rw[zK y,qC rfl,q9,dP,dK aal];generalize (a.ty g).1=t
   have go:∀C:List Ty,C=d++[t]->(some (fp.next (st9 (tZ C))):Option (fp (Int×(List Ty)×Int×Int×(List Ty)×Int×Int×(List Ty)×Int) (dN×Int)))=some (fp.next (st9 (tZ (d++[t])))):=λC e=>by rw[e]
   have ih:=Gt l (d++[t]) abv (λb F=>h b (by simp[F]));rw[oV,kY,wZ] at ih
   have fin:(some (match Tm.vx l g with|.inl ts=>.inl (st9 (tZ (d++[t]++ts)))|.inr e=>.inr (XJ,e)):Option ((Int×(List Ty)×Int×Int×(List Ty)×Int×Int×(List Ty)×Int)⊕(dN×Int)))=some (match(match Tm.vx l g with|.inl ts=>Sum.inl (t::ts)|.inr e=>Sum.inr e:List Ty⊕Int)with|.inl ts=>.inl (st9 (tZ (d++ts)))|.inr e=>.inr (XJ,e)):=by
    cases Tm.vx l g with
    |inl ts=>simp|inr e=>rfl
   match d,B with
   |[],_=>
    rw[dO abE];exact ih.trans fin
   |[u],_=>
    rw[dK abm,dO abE];exact ih.trans fin
   |[u,v],_=>
    rw[dK abm,dK abm,show eo (([u,v].length:Nat):Int) 2=true from rfl,dU];exact ih.trans fin
   |_::_::_::_,B=>simp at B;omega
  .rw[qK y];generalize a.ty g=r at y;obtain⟨t,e⟩:=r;simp only at y;rw[nT y,dP,dO (by simpa[eR] using y)];rfl
def acC(p:dN×dN×dN):((dN.mk (Ty.mk p.1.dM.aop p.1.dM.aoq) p.1.aor),(dN.mk (Ty.mk p.2.1.dM.aop p.2.1.dM.aoq) p.2.1.aor),(dN.mk (Ty.mk p.2.2.dM.aop p.2.2.dM.aoq) p.2.2.aor))=p:=by
 have e:∀t:Ty,Ty.mk t.aop t.aoq=t:=λt=>by cases t;rfl
 obtain⟨⟨a,b⟩,⟨c,d⟩,⟨h,f⟩⟩:=p;simp only[e]
def lN{n:Nat}{g:List Ty}{k i:Int}{s:Ty}{l:List Tm}(q:k≠1)(r:k≠2)(t:l.length<=3)(h:∀a∈l,eU n (g.map pZ) a=some (MJ (a.ty g)))
  (hn:∀ts,Tm.vx l g=.inl ts->gx (.mk k i s l) (tZ ts)=some (MJ (ib k s ts))):eU (n+1) (g.map pZ) (.mk k i s l)=some (MJ ((Tm.mk k i s l).ty g)):=by
 rw[eU,dK (by simpa[eo] using q),dK (by simpa[eo] using r),Tm.nt,dK q,dK r];simp only[dY,Tm.ey];rw[ei VW,dU];have f:=Gt l [] (by simpa using t) h;refine(congrArg (λo=>dH o _) f).trans ?_;simp only[dI];cases j:Tm.vx l g with
 |inr e=>
  rw[SH]
  have he:e≠0:=by
   rcases Br l g with⟨u,d,c⟩|⟨ts,d,_⟩
   .rw[j] at c;cases c;exact d
   .rw[j] at d;cases d
  rw[nT he];rfl
 |inl ts=>
  simp only[n9,ew,o9,st9,un9];rw[acC,hn ts j,show∀p:dN×Int,(dR (some p) λa b=>some (a,b))=some p fromλ_=>rfl]
end Go.fP
namespace Go.fP
open Go
def AR(g:List Ty)(s:Ty):g.map pZ++[pZ s]=(g++[s]).map pZ:=abm
def Gb:∀(n:Nat) (t:Tm),t.aor<=n->t.ok=true->∀g,jf g->g.length+t.aor<=1000000->eU n (g.map pZ) t=some (MJ (t.ty g)):=by
 intro n
 induction n with
 |zero=>intro t h;have:=t.eF;omega
 |succ n ih=>
  intro t hn B
  have one:∀{a:Tm} {g:List Ty} {ts:List Ty},a.ok=true->jf g->Tm.vx [a] g=.inl ts->∃x,ts=[x]/\x.err=0:=by
   intro a g ts j hg h;rcases D2 j hg with⟨e,_,o⟩|⟨x,o,f⟩<;>rw[h] at o<;>cases o;exact⟨x,rfl,f⟩
  have two:∀{a b:Tm} {g:List Ty} {ts:List Ty},a.ok=true->b.ok=true->jf g->Tm.vx [a,b] g=.inl ts->∃x y,ts=[x,y]/\x.err=0/\y.err=0:=by
   intro a b g ts j k hg h;rcases Ea j k hg with⟨e,_,o⟩|⟨x,y,o,f,hy⟩<;>rw[h] at o<;>cases o;exact⟨x,y,rfl,f,hy⟩
  have three:∀{a b c:Tm} {g:List Ty} {ts:List Ty},a.ok=true->b.ok=true->c.ok=true->jf g->Tm.vx [a,b,c] g=.inl ts->∃x y z,ts=[x,y,z]/\x.err=0/\y.err=0/\z.err=0:=by
   intro a b c g ts j k l hg h;rcases CI j k l hg with⟨e,_,o⟩|⟨x,y,z,o,f,hy,u⟩<;>rw[h] at o<;>cases o;exact⟨x,y,z,rfl,f,hy,u⟩
  refine Tm.nw (p:=λt=>t.aor<=n+1->∀g,jf g->g.length+t.aor<=1000000->eU (n+1) (g.map pZ) t=some (MJ (t.ty g))) ?_ ?_ ?_ ?_ ?_ ?_ ?_ ?_ ?_ ?_ ?_ ?_ ?_ t B hn
  .intro i _ g hg k;rw[Tm.dL] at k;rw[eU,dO abE,Tm.nt,dO rfl];simp only[Tm.gn,fV,Hn]
   by_cases hi:(i:Int)<(g.length:Int)
   .rw[dK (by simp only[ju];omega),dO hi];rw[fF (a:=(g.length:Int)) VW VW,fF VW VW]
    have v:g.length-1-i<g.length:=VW
    have:dW (g.map pZ) ((g.length:Int)-1-(i:Int))=some (pZ g[g.length-1-i]):=by
     unfold dW;rw[dO VW,show((g.length:Int)-1-(i:Int)).toNat=g.length-1-i by omega,y',pE v];rfl
    rw[this];simp only[dI,BS];rw[A2,pE v];exact congrArg some (q9 _).symm
   .rw[dO (by simp only[ju];omega),dK hi,nT aal];rfl
  .intro s b hs k hn g hg d;rw[Tm.dL] at hn d;simp only[ee] at hn d;rw[eU,dK abm,dO abE,Tm.nt,dK aal,dO rfl,Tm.tyH];simp only[Tm.fx,Tm.ey,mi hs,eO,jW,dI,ig];rw[fk abv,dU,AR,ih b VW k (g++[s]) (hg.app hs) abv];have A:=λh=>(rz _ b (gY _) k (g++[s]) (hg.app hs) (b.ty (g++[s])).1 (zK h)).2;generalize b.ty (g++[s])=q at A;obtain⟨r,e⟩:=q;simp only[QF]
   by_cases w:e=0
   .subst w;have C:r.err=0:=A rfl;have D:=fI hs;have F:=fI C;rw[q9,dP,dK aal,dK abm,Bg 4 VW VW]
    by_cases l:64<1+s.aor+r.aor
    .rw[dO l,dO l,nT aal];rfl
    .rw[dK l,dK l,q9];rfl
   .rw[nT w,dP,dO (by simpa[eR] using w),dO w,nT w];rfl
  .intro a b j k hn g hg d;rw[Tm.dL] at hn d;simp only[ee] at hn d;refine lN aal aal abm (by intro x f;simp at f;rcases f with rfl|rfl<;>first|exact ih _ VW j g hg VW|exact ih _ VW k g hg VW) (λts h=>?_);obtain⟨x,y,rfl,f,hy⟩:=two j k hg h;exact Z9 f hy
  .intro hn g hg d;exact lN aal aal abm abm (λts h=>by rw[Tm.vx] at h;cases h;exact WT)
  .intro a j hn g hg d;rw[Tm.dL] at hn d;simp only[ee] at hn d;refine lN aal aal abm (by intro x f;simp at f;subst f;exact ih _ VW j g hg VW) (λts h=>?_);obtain⟨x,rfl,f⟩:=one j hg h;exact Xu f
  .intro s a b c hs j k l hn g hg d;rw[Tm.dL] at hn d;simp only[ee] at hn d;refine lN aal aal abm (by intro x f;simp at f;rcases f with rfl|rfl|rfl<;>first|exact ih _ VW j g hg VW|exact ih _ VW k g hg VW|exact ih _ VW l g hg VW) (λts h=>?_);obtain⟨x,y,z,rfl,f,hy,u⟩:=three j k l hg h;exact YM hs f hy u
  .intro hn g hg d;exact lN aal aal abm abm (λts h=>by rw[Tm.vx] at h;cases h;exact aab)
  .intro a b j k hn g hg d;rw[Tm.dL] at hn d;simp only[ee] at hn d;refine lN aal aal abm (by intro x f;simp at f;rcases f with rfl|rfl<;>first|exact ih _ VW j g hg VW|exact ih _ VW k g hg VW) (λts h=>?_);obtain⟨x,y,rfl,f,hy⟩:=two j k hg h;exact VX f hy
  .intro s a b c hs j k l hn g hg d;rw[Tm.dL] at hn d;simp only[ee] at hn d;refine lN aal aal abm (by intro x f;simp at f;rcases f with rfl|rfl|rfl<;>first|exact ih _ VW j g hg VW|exact ih _ VW k g hg VW|exact ih _ VW l g hg VW) (λts h=>?_);obtain⟨x,y,z,rfl,f,hy,u⟩:=three j k l hg h;exact Xl hs f hy u
  .intro a b j k hn g hg d;rw[Tm.dL] at hn d;simp only[ee] at hn d;refine lN aal aal abm (by intro x f;simp at f;rcases f with rfl|rfl<;>first|exact ih _ VW j g hg VW|exact ih _ VW k g hg VW) (λts h=>?_);obtain⟨x,y,rfl,f,hy⟩:=two j k hg h;exact WE f hy
  .intro a j hn g hg d;rw[Tm.dL] at hn d;simp only[ee] at hn d;refine lN aal aal abm (by intro x f;simp at f;subst f;exact ih _ VW j g hg VW) (λts h=>?_);obtain⟨x,rfl,f⟩:=one j hg h;exact Yp f
  .intro a j hn g hg d;rw[Tm.dL] at hn d;simp only[ee] at hn d;refine lN aal aal abm (by intro x f;simp at f;subst f;exact ih _ VW j g hg VW) (λts h=>?_);obtain⟨x,rfl,f⟩:=one j hg h;exact Z7 f
  .intro hn g hg d;exact lN aal aal abm abm (λts h=>by rw[Tm.vx] at h;cases h;exact Wt)
def qS{t:Tm}{g:List Ty}(a:t.ok=true)(hg:jf g)(b:g.length+t.aor<=1000000):eU FU (g.map pZ) t=some (MJ (t.ty g)):=
 Gb FU t (by have:=fl;omega) a g hg b
noncomputable def qu (t:Tm) (g:List Ty) (k:Int):Int:=if(t.ty g).2=0/\(t.ty g).1.aop≠k then 7 else(t.ty g).2
def Lq{t:Tm}{g:List Ty}(k:Int)(c:t.ok=true)(hg:jf g)(d:g.length+t.aor<=1000000):mJ (g.map pZ) t k=some (qu t g k):=by
 unfold mJ qu;rw[qS c hg d];generalize t.ty g=q;obtain⟨r,e⟩:=q
 by_cases a:e=0
 .subst a;rw[q9,dP];simp only[dY];rw[dO abE,Gr,dI,GB]
  by_cases b:r.aop=k
  .rw[xG b,dK aal,dK (λh=>h.2 b)]
  .rw[KG b,dO aal,dO ⟨trivial,b⟩]
 .rw[nT a,dP];simp only[dY];rw[dK (by simpa[eo] using a),dK aal,dK (λh=>a h.1)]
def yl{t:Tm}{g:List Ty}(a:t.ok=true)(hg:jf g)(b:g.length+t.aor<=1000000):ja (g.map pZ) t=some (qu t g 1):=by
 unfold ja;rw[Lq 1 a hg b];rfl
mutual
noncomputable def Fm.zC:Fm->List Ty->Int
 |.mk k s ts l,g=>if fC (ts.map λt=>qu t g 1)=0 then Fm.YK l (if i_ k then g++[s] else g)else fC (ts.map λt=>qu t g 1)
noncomputable def Fm.YK:List Fm->List Ty->Int
 |[],_=>0|f::l,g=>if f.zC g=0 then Fm.YK l g else f.zC g
end
def Fm.U5(g:List Ty):∀l:List Fm,Fm.YK l g=fC (l.map λf=>f.zC g)
 |[]=>by rw[Fm.YK];rfl|f::l=>by rw[Fm.YK,Fm.U5 g l];rfl
def Fm.uP(k:Int)(s:Ty)(ts:List Tm)(l:List Fm)(g:List Ty):(Fm.mk k s ts l).zC g=if fC (ts.map λt=>qu t g 1)=0 then fC (l.map λf=>f.zC (if i_ k then g++[s] else g))else fC (ts.map λt=>qu t g 1):=by
 rw[Fm.zC,Fm.U5]
def Az{t:Tm}{g:List Ty}(a:t.ok=true)(hn:t.aor<=4096)(hg:jf g)(b:g.length<=900000):qx g t=some (t.ty g):=by
 unfold qx;have hw:=t.kQ a;rw[jQ VW]
 have he:t.err=0:=by unfold Tm.err;rw[dO a,dK VW]
 rw[he];simp only[dI];rw[dK aal,Ae FU t (by have:=fl;omega) a g hg VW];rfl
def Mp{t:Tm}{g:List Ty}(f:t.ok=true)(hn:t.aor<=4096)(hg:jf g)(i:g.length<=900000):(dR (qx g t) λd a=>if(eR a 0) then(some (.ret a))else(if(eR d.aop 1) then(some (.ret 7))else(some (.next ()))):Option (fp Unit Int))=
   if qu t g 1≠0 then some (.ret (qu t g 1))else some (.next ()):=by
 rw[Az f hn hg i];unfold qu;generalize t.ty g=q;obtain⟨r,e⟩:=q;simp only[dP,eW]
 by_cases b:e=0
 .subst b
  by_cases c:r.aop=1
  .rw[dK abm,dK (by simp[c]),dK (show¬((0:Int)=0/\r.aop≠1)fromλh=>h.2 c),dK abm]
  .rw[dK abm,dO c,dO (show(0:Int)=0/\r.aop≠1 from⟨rfl,c⟩),dO aal]
 .rw[dO b,dK (show¬(e=0/\r.aop≠1)fromλh=>b h.1),dO b]
def tI{e:Int}:(dH (some e) λa=>if(eR a 0) then(some (.ret a))else(some (.next ())):Option (fp Unit Int))=if e≠0 then some (.ret e)else some (.next ()):=by
 rw[dI]
 by_cases h:e=0
 .subst h;rfl
 .rw[dO (by simpa[eR] using h),dO h]
def wQ{l:List Int}{k:Unit⊕Int->Option Int}(h:k=fQ (λ_=>some 0) (λr=>some r)):dH (if fC l=0 then some (.inl ())else some (.inr (fC l))) k=some (fC l):=by
 subst h
 by_cases h:fC l=0
 .rw[dO h,h];rfl
 .rw[dK h];rfl
def AU(f:Fm)(w:f.ok=true):∀n,f.aor<=n->∀g,jf g->g.length+f.aor<=900000->f.aor<=4096->ns n g f=some (f.zC g):=by
 refine Fm.nw (p:=λf=>∀n,f.aor<=n->∀g,jf g->g.length+f.aor<=900000->f.aor<=4096->ns n g f=some (f.zC g)) ?_ ?_ ?_ f w
 .intro a b o v n hn g hg c d;rw[Fm.dL] at hn c d;simp only[ee] at hn c d;obtain⟨n,rfl⟩:∃m,n=m+1:=⟨n-1,VW⟩;rw[ns,Fm.uP];simp only[dY,Fm.ik,Fm.ey,Fm.eD,l7,dI]
  rw[ei abm,dU,mN (λt=>qu t g 1) [a,b] 0 (λj x i=>by
   simp only[kX,Ww,pM] at i;rcases i with rfl|rfl
   .exact Mp o VW hg VW
   .exact Mp v VW hg VW)]
  rw[show i_ 1=false from rfl]
  by_cases h:fC ([a,b].map λt=>qu t g 1)=0
  .rw[dO h,dO h];rfl
  .rw[dK h,dK h];rfl
 .intro k a b q o v l r n hn g hg c d;rw[Fm.dL] at hn c d;simp only[ee] at hn c d;obtain⟨n,rfl⟩:∃m,n=m+1:=⟨n-1,VW⟩
  have u:i_ k=false:=by rcases q with rfl|rfl<;>rfl
  rw[ns,Fm.uP];simp only[dY,Fm.ik,Fm.ey,Fm.eD,l7,dI,u,rQ,fC]
  rw[ei abm,dU,oz,dI,ew,dK aal,dO trivial,ei abm,dU,mN (λf=>f.zC g) [a,b] 0 (λj x i=>by
   simp only[kX,Ww,pM] at i;rcases i with rfl|rfl
   .rw[l n VW g hg VW VW];exact tI
   .rw[r n VW g hg VW VW];exact tI)]
  exact wQ rfl
 .intro k s a q hs o l n hn g hg c d;rw[Fm.dL] at hn c d;simp only[ee] at hn c d;obtain⟨n,rfl⟩:∃m,n=m+1:=⟨n-1,VW⟩
  have u:i_ k=true:=by rcases q with rfl|rfl|rfl|rfl<;>rfl
  rw[ns,Fm.uP];simp only[dY,Fm.ik,Fm.ey,Fm.eD,Fm.fx,l7,dI,u,rQ,fC];rw[ei abm,dU,oz,dI,ew];simp only[if_true]
  rw[fk abv,dU,ig,ei abm,dU,mN (λf=>f.zC (g++[s])) [a] 0 (λj x i=>by
   simp only[kX,Ww,pM] at i;subst i
   rw[l n VW (g++[s]) (hg.app hs) abv VW];exact tI)]
  exact wQ rfl
def wN{g:List Ty}{s:Ty}(hs:s.err=0)(a:g.length<=900000):jB (g.map pZ) [s]=some ((g++[s]).map pZ):=by
 unfold jB nj;simp only[dY];rw[ei abm,dU,eV,mi hs];simp only[dI];rw[fk abm,dU];simp only[dI,eQ,oz,ew,ig,n9];rw[fk abv,dU,AR]
def Gw{t:Tm}{g:List Ty}(b:t.ok=true)(hn:t.aor<=4096)(hg:jf g)(c:g.length<=900000):(dH (ja (g.map pZ) t) λa=>if(eR a 0) then(some (.ret a))else(some (.next ())):Option (fp Unit Int))=if qu t g 1≠0 then some (.ret (qu t g 1))else some (.next ()):=by
 rw[yl b hg VW];exact tI
def xc(f:Fm)(C:f.ok=true):∀n,f.aor<=n->∀g,jf g->g.length+f.aor<=900000->f.aor<=4096->fK n (g.map pZ) f=some (f.zC g):=by
 refine Fm.nw (p:=λf=>∀n,f.aor<=n->∀g,jf g->g.length+f.aor<=900000->f.aor<=4096->fK n (g.map pZ) f=some (f.zC g)) ?_ ?_ ?_ f C
 .intro a b v A n hn g hg c d;rw[Fm.dL] at hn c d;simp only[ee] at hn c d;obtain⟨n,rfl⟩:∃m,n=m+1:=⟨n-1,VW⟩;rw[fK,Fm.uP];simp only[dY,Fm.ik,Fm.ey]
  rw[dK abm,dK abm,dK abm,ei abm,dU,mN (λt=>qu t g 1) [a,b] 0 (λj x i=>by
   simp only[kX,Ww,pM] at i;rcases i with rfl|rfl
   .exact Gw v VW hg VW
   .exact Gw A VW hg VW)]
  rw[wQ rfl]
  by_cases h:fC ([a,b].map λt=>qu t g 1)=0
  .rw[dO h,h];rfl
  .rw[dK h]
 .intro k a b o v A q w n hn g hg c d;rw[Fm.dL] at hn c d;simp only[ee] at hn c d;obtain⟨n,rfl⟩:∃m,n=m+1:=⟨n-1,VW⟩
  have y:i_ k=false:=by rcases o with rfl|rfl<;>rfl
  have D:fq (eo k 4) true (eo k 5)=false:=by rcases o with rfl|rfl<;>rfl
  have k2:fq (eo k 6) true (eo k 7)=false:=by rcases o with rfl|rfl<;>rfl
  have F:fq (eo k 2) true (eo k 3)=true:=by rcases o with rfl|rfl<;>rfl
  rw[fK,Fm.uP];simp only[dY,Fm.ik,Fm.ey,y,rQ,fC];rw[dK (by simp only[Fm.eD,D];decide),dK (by simp only[Fm.eD,k2];decide),dO (by simp only[Fm.eD,F])];simp only[if_true,pA,jt]
  rw[ei abm,dU,mN (λf=>f.zC g) [a,b] 0 (λj x i=>by
   simp only[kX,Ww,pM] at i;rcases i with rfl|rfl
   .rw[q n VW g hg VW VW];exact tI
   .rw[w n VW g hg VW VW];exact tI)]
  exact wQ rfl
 .intro k s a o hs v q n hn g hg c d;rw[Fm.dL] at hn c d;simp only[ee] at hn c d;obtain⟨n,rfl⟩:∃m,n=m+1:=⟨n-1,VW⟩
  have y:i_ k=true:=by rcases o with rfl|rfl|rfl|rfl<;>rfl
  rw[fK,Fm.uP];simp only[dY,Fm.ik,Fm.ey,Fm.fx,y,rQ,fC,wN hs (show g.length<=900000 by omega),dI,if_true]
  have fin:(gq (e_ [a])<|dH (fa (λ(B:Int) (u:Fm)=>(λ(_:Unit)=>
    dH (fK n ((g++[s]).map pZ) u) λl=>
    if(eR l 0) then(
    some (.ret l))
    else(some (.next ()))):Int->Fm->(Unit)->(Option (fp (Unit) (Int)))) [a] 0 ()) (fQ (λ(_:Unit)=>some 0) (λr=>some r)))=some (fC ([a].map λf=>f.zC (g++[s]))):=by
   rw[ei abm,dU,mN (λf=>f.zC (g++[s])) [a] 0 (λj x i=>by
    simp only[kX,Ww,pM] at i;subst i
    rw[q n VW (g++[s]) (hg.app hs) abv VW];exact tI)]
   exact wQ rfl
  rcases o with rfl|rfl|rfl|rfl
  .rw[dO abm];exact fin
  .rw[dO abm];exact fin
  .rw[dK abm,dO abm];exact fin
  .rw[dK abm,dO abm];exact fin
mutual
def Fm.up(f b:Int):Fm->Fm
 |.mk k s ts l=>.mk k s (ts.map (Tm.up f b)) (Fm.upL (f+qB k) b l)
def Fm.upL(f b:Int):List Fm->List Fm
 |[]=>[]|t::l=>t.up f b::Fm.upL f b l
end
def Fm.Ud(f b:Int)(l:List Fm):Fm.upL f b l=l.map (Fm.up f b):=by
 induction l with
 |nil=>rfl|cons t l ih=>simp[Fm.upL,ih]
theorem Fm.fE(f b k:Int)(s:Ty)(ts:List Tm)(l:List Fm):(Fm.mk k s ts l).up f b=.mk k s (ts.map (Tm.up f b)) (l.map (Fm.up (f+qB k) b)):=by rw[Fm.up,Fm.Ud]
mutual
def Fm.aov(m:Int):Fm->Bool
 |.mk _ _ ts l=>ts.all (Tm.aov m)&&Fm.uS m l
def Fm.uS(m:Int):List Fm->Bool
 |[]=>true|t::l=>t.aov m&&Fm.uS m l
end
def Fm.FD(m:Int)(l:List Fm):Fm.uS m l=l.all (Fm.aov m):=by
 induction l with
 |nil=>rfl|cons t l ih=>simp[Fm.uS,ih]
theorem Fm.fo(m k:Int)(s:Ty)(ts:List Tm)(l:List Fm):(Fm.mk k s ts l).aov m=(ts.all (Tm.aov m)&&l.all (Fm.aov m)):=by rw[Fm.aov,Fm.FD]
mutual
def Fm.aox(a:Int):Fm->Nat
 |.mk k _ ts l=>ee (Tm.aox a) ts+Fm.ze (a+qB k) l
def Fm.ze(a:Int):List Fm->Nat
 |[]=>0|t::l=>t.aox a+Fm.ze a l
end
def Fm.Fu(a:Int)(l:List Fm):Fm.ze a l=ee (Fm.aox a) l:=by
 induction l with
 |nil=>rfl|cons t l ih=>simp[Fm.ze,ee,ih]
def Fm.fu(a k:Int)(s:Ty)(ts:List Tm)(l:List Fm):(Fm.mk k s ts l).aox a=ee (Tm.aox a) ts+ee (Fm.aox (a+qB k)) l:=by rw[Fm.aox,Fm.Fu]
mutual
def Fm.gP:Int->Fm->Tm->Fm
 |n,.mk k ty ts l,s=>.mk k ty (ts.map λx=>Tm.gP n x s) (Fm.HO (n+qB k) l s)
def Fm.HO:Int->List Fm->Tm->List Fm
 |_,[],_=>[]|n,t::l,s=>Fm.gP n t s::Fm.HO n l s
end
def Fm.Oq(n:Int)(s:Tm)(l:List Fm):Fm.HO n l s=l.map (λx=>Fm.gP n x s):=by
 induction l with
 |nil=>rfl|cons t l ih=>simp[Fm.HO,ih]
theorem Fm.fN(n:Int)(s:Tm)(k:Int)(ty:Ty)(ts:List Tm)(l:List Fm):Fm.gP n (Fm.mk k ty ts l) s=.mk k ty (ts.map λx=>Tm.gP n x s) (l.map λx=>Fm.gP (n+qB k) x s):=by rw[Fm.gP,Fm.Oq]
def Fm.iZ(t:Fm):∀a,t.aox a<=t.aor:=by
 induction t using Fm.ind with
 |h k s ts l ih=>
  intro a;rw[Fm.fu,Fm.dL];have:=kI (f:=Fm.aox (a+qB k)) (g:=Fm.aor) (l:=l) λx b=>ih x b _;have:=kI (f:=Tm.aox a) (g:=Tm.aor) (l:=ts) λx _=>x.iZ _;omega
def Fm.kJ(t:Fm):∀f b,(t.up f b).aor=t.aor:=by
 induction t using Fm.ind with
 |h k s ts l ih=>
  intro f b;rw[Fm.fE,Fm.dL,Fm.dL,lH,lH,pd λx a=>ih x a _ _,pd λx _=>Tm.kJ x f b]
def Fm.YF(t:Fm):∀f b,(t.up f b).wt=t.wt:=by
 induction t using Fm.ind with
 |h k s ts l ih=>
  intro f b;rw[Fm.fE,Fm.iE,Fm.iE,lH,lH,pd λx a=>ih x a _ _,pd λx _=>Tm.YF x f b]
def Fm.J3(t:Fm):∀f b,0<=f->0<=b->(t.up f b).ok=t.ok:=by
 induction t using Fm.ind with
 |h k s ts l ih=>
  intro f b c a;have:=uI k;rw[Fm.fE,Fm.gX,Fm.gX,Hn,Hn,xH λx d=>ih x d (f+qB k) b VW a,xH λx _=>Tm.J3 x f b c a]
def R5{α:Type}{a b c:α->Nat}{m:Nat}{l:List α}(h:∀x∈l,a x+b x=c x+b x*m):ee a l+ee b l=ee c l+ee b l*m:=by
 induction l with
 |nil=>simp[ee]|cons y l ih=>
  have f:=h y abm;have i:=ih λx d=>h x (by simp[d]);simp only[ee,Ce];omega
def Fm.r6(s:Tm)(t:Fm):∀n,t.ok=true->(Fm.gP n t s).aor+t.aox n=t.aor+t.aox n*s.aor:=by
 induction t using Fm.ind with
 |h k ty ts l ih=>
  intro n d;rw[Fm.gX] at d;simp only[gJ,kZ] at d;rw[Fm.fN,Fm.fu,Fm.dL,Fm.dL,lH,lH,Ce];have i:=R5 (l:=ts) (a:=λx=>(Tm.gP n x s).aor) (b:=Tm.aox n) (c:=Tm.aor) (m:=s.aor) λx f=>Tm.r6 s x n (d.1.2 x f);have j:=R5 (l:=l) (a:=λx=>(Fm.gP (n+qB k) x s).aor) (b:=Fm.aox (n+qB k)) (c:=Fm.aor) (m:=s.aor) λx f=>ih x f _ (d.2 x f);omega
def Fm.Pt{g:Fm->Fm}{k:Int}{s:Ty}{ts us:List Tm}{l:List Fm}(h:∀x∈l,(g x).has=x.has):(Fm.mk k s us (l.map g)).has=(Fm.mk k s ts l).has:=by
 rw[Fm.has,Fm.has]
 have a:Fm.CM (l.map g)=Fm.CM l:=by
  induction l with
  |nil=>rfl|cons x l ih=>simp only[pP,Fm.CM,h x abm,ih λy hy=>h y (by simp[hy])]
 have b:Fm.oc (l.map g)=Fm.oc l:=by
  clear a
  induction l with
  |nil=>rfl|cons x l ih=>
   cases l with
   |nil=>simp[Fm.oc,h x abm]|cons y l=>simpa[Fm.oc] using ih λz c=>h z (by simp[c])
 rw[a,b]
def Fm.Ve{g:Fm->Fm}{k:Int}{s:Ty}{ts us:List Tm}{l:List Fm}(h:∀x∈l,(g x).ct=x.ct):(Fm.mk k s us (l.map g)).ct=(Fm.mk k s ts l).ct:=by
 rw[Fm.ct,Fm.ct]
 have a:Fm.M_ (l.map g)=Fm.M_ l:=by cases l with|nil=>rfl|cons x l=>simp[Fm.M_,h x abm]
 have b:Fm.GQ (l.map g)=Fm.GQ l:=by
  clear a
  induction l with
  |nil=>rfl|cons x l ih=>
   cases l with
   |nil=>simp[Fm.GQ,h x abm]|cons y l=>simpa[Fm.GQ] using ih λz c=>h z (by simp[c])
 rw[a,b]
def Fm.ae2(t:Fm):∀f b,(t.up f b).ct=t.ct/\(t.up f b).has=t.has:=by
 induction t using Fm.ind with
 |h k s ts l ih=>intro f b;rw[Fm.fE];exact⟨Fm.Ve λx a=>(ih x a _ _).1,Fm.Pt λx a=>(ih x a _ _).2⟩
def Fm.N8(s:Tm)(t:Fm):∀n,(Fm.gP n t s).ct=t.ct/\(Fm.gP n t s).has=t.has:=by
 induction t using Fm.ind with
 |h k ty ts l ih=>
  intro n;rw[Fm.fN];exact⟨Fm.Ve (g:=λx=>Fm.gP (n+qB k) x s) λx a=>(ih x a _).1,Fm.Pt (g:=λx=>Fm.gP (n+qB k) x s) λx a=>(ih x a _).2⟩
def EM{t:Tm}(m:Int)(h:t.aor<=1000000000):lJ FU t m=some (t.aov m):=AT FU t m (by rw[fl];exact h) h
def A1:∀(n:Nat) (t:Fm) (m:Int),t.aor<=n->t.aor<=1000000000->oJ n t m=some (t.aov m):=by
 intro n
 induction n with
 |zero=>intro t m h;have:=t.eF;omega
 |succ n ih=>
  intro t m h c;cases t with
  |mk k s ts l=>
   rw[Fm.dL] at h c;have i:=Fm.fA l;have d:=Tm.fA ts
   have f:fa (ρ:=Bool) (λ(_:Int) (x:Tm) (_:Unit)=>dH (lJ FU x m) λa=>if a then some (fp.next ())else some (fp.ret false)) ts 0 ()=if ts.all (Tm.aov m) then some (.inl ())else some (.inr false):=by
    refine rL (Tm.aov m) _ ts 0 ?_;intro j x b;have:=eu Tm.aor b;rw[EM m VW];rfl
   have k2:fa (ρ:=Bool) (λ(_:Int) (x:Fm) (_:Unit)=>dH (oJ n x m) λa=>if a then some (fp.next ())else some (fp.ret false)) l 0 ()=if l.all (Fm.aov m) then some (.inl ())else some (.inr false):=by
    refine rL (Fm.aov m) _ l 0 ?_;intro j x b;have:=eu Fm.aor b;rw[ih x m VW VW];rfl
   rw[oJ];simp only[Fm.ey,Fm.ik,dY,ei (l:=l) VW,ei (l:=ts) VW,dU,f,k2,Fm.fo];cases o:ts.all (Tm.aov m)<;>cases q:l.all (Fm.aov m)<;>simp
def Gv:∀(n:Nat) (t:Fm) (f b:Int),t.aor<=n->t.aor<=1000000000->0<=f->f+t.aor<=10000000000->0<=b->b<=10000000000->t.aov 1000000000000=true->mK n t f b=some (t.up f b):=by
 intro n
 induction n with
 |zero=>intro t f b h;have:=t.eF;omega
 |succ n ih=>
  intro t f b h d r i q a hi;cases t with
  |mk k s ts l=>
   rw[Fm.dL] at h d i;rw[Fm.fo] at hi;simp only[gJ,kZ] at hi;have w:=Fm.fA l;have u:=Tm.fA ts;have y:=uI k;rw[mK];simp only[Fm.ey,Fm.ik,Fm.eD,Fm.fx,dY,ei (l:=l) VW,ei (l:=ts) VW,dU];rw[kh (Tm.up f b) ts 0 [] abv]
   .simp only[dI,ew];rw[kh (Fm.up (f+qB k) b) l 0 [] abv]
    .simp[Fm.fE]
    .intro j x v c o;have:=eu Fm.aor c;rw[qk];simp only[dI,Fm.eD];rw[e9 VW VW,ih x (f+qB k) b VW VW VW VW q a (hi.2 x c)];simp[fk (l:=v) (m:=[x.up (f+qB k) b]) (by simpa using o)]
   .intro j x v c o;have:=eu Tm.aor c;rw[GD FU x f b (by rw[fl];omega) VW r VW q a (hi.1 x c)];simp[fk (l:=v) (m:=[x.up f b]) (by simpa using o)]
def Ja:∀(n:Nat) (t:Fm) (a:Int),t.aor<=n->t.aor<=1000000000->0<=a->a+t.aor<=10000000000->qs n t a=some (t.aox a:Int):=by
 intro n
 induction n with
 |zero=>intro t a h;have:=t.eF;omega
 |succ n ih=>
  intro t a h c o d;cases t with
  |mk k s ts l=>
   rw[Fm.dL] at h c d;have w:=Fm.fA l;have q:=Tm.fA ts;have A:=uI k;have r:ee (Fm.aox (a+qB k)) l<=ee Fm.aor l:=kI λx _=>x.iZ _;have i:ee (Tm.aox a) ts<=ee Tm.aor ts:=kI λx _=>x.iZ _;rw[qs];simp only[Fm.ey,Fm.ik,Fm.eD,dY,ei (l:=l) VW,ei (l:=ts) VW,dU]
   have u:=qd (ρ:=Int) (F:=λ(_:Int) (x:Tm) (v:Int)=>dH (nH FU x a) λy=>some (fp.next (eH .i64 v y))) (Tm.aox a) ts 0 0 VW (by
    intro j x v f;have:=eu Tm.aor f;rw[Ah FU x a (by rw[fl];omega) VW o VW]
    rfl)
   have k2:=qd (ρ:=Int) (F:=λ(_:Int) (x:Fm) (v:Int)=>dH (nk (Fm.mk k s ts l)) λb=>dH (qs n x (eH .i64 a b)) λy=>some (fp.next (eH .i64 v y))) (Fm.aox (a+qB k)) l 0 (0+ee (Tm.aox a) ts) VW (by
    intro j x v f;have:=eu Fm.aor f;rw[qk];simp only[dI,Fm.eD];rw[e9 VW VW,ih x _ VW VW VW VW]
    rfl)
   rw[show(0:Int)=((0:Nat):Int)from rfl,u];simp only[dI,ew];rw[k2];simp[Fm.fu]
def PZ:∀(n:Nat) (t:Fm) (a b:Int) (s:Tm),t.aor<=n->t.aor<=1000000000->0<=a->0<=b->a+b+t.aor<=5000000000->t.aov 1000000000000=true->t.ok=true->s.aor<=1000000000->s.aov 1000000000000=true->yt n t a b s=some (Fm.gP (a+b) t s):=by
 intro n
 induction n with
 |zero=>intro t a b s h;have:=t.eF;omega
 |succ n ih=>
  intro t a b s h i r u o hi c hs f;cases t with
  |mk k ty ts l=>
   rw[Fm.dL] at h i o;rw[Fm.fo] at hi;rw[Fm.gX] at c;simp only[gJ,kZ] at hi c;have y:=Fm.fA l;have w:=Tm.fA ts;have A:=uI k;rw[yt];simp only[Fm.ey,Fm.ik,Fm.eD,Fm.fx,dY,ei (l:=l) VW,ei (l:=ts) VW,dU];rw[kh (λx=>Tm.gP (a+b) x s) ts 0 [] abv]
   .simp only[dI,ew];rw[kh (λx=>Fm.gP (a+b+qB k) x s) l 0 [] abv]
    .simp[Fm.fN]
    .intro j x v d q;have:=eu Fm.aor d;rw[qk];simp only[dI,Fm.eD];rw[e9 VW VW,ih x a (b+qB k) s VW VW r VW VW (hi.2 x d) (c.2 x d) hs f];rw[show a+(b+qB k)=a+b+qB k by omega];simp[fk (l:=v) (m:=[Fm.gP (a+b+qB k) x s]) (by simpa using q)]
   .intro j x v d q;have:=eu Tm.aor d;rw[GV FU x a b s (by rw[fl];omega) VW r u VW (hi.1 x d) (c.1.2 x d) hs f];simp[fk (l:=v) (m:=[Tm.gP (a+b) x s]) (by simpa using q)]
def Fm.o6(t:Fm):∀{m n:Int},m<=n->t.aov m=true->t.aov n=true:=by
 induction t using Fm.ind with
 |h k s ts l ih=>
  intro m n a h;rw[Fm.fo] at*;simp only[gJ,kZ] at*;exact⟨λx b=>Tm.o6 x a (h.1 x b),λx b=>ih x b a (h.2 x b)⟩
def LH{f:Fm}{a b:Int}(hw:f.wt<=1000000000)(he:f.err=0)(d:0<=a)(h:a<=4096)(i:0<=b)(j:b<=4096)(c:f.aov 536870912=true):qg f a b=some (f.up a b,0):=by
 have hn:=f.ij;unfold qg;rw[iz hw,he];simp only[dI,eW,ne_eq,Q_,jt,dY,jA,hJ];rw[dK VW,dK VW,dK VW,dK VW,A1 FU f _ (by rw[fl];omega) VW,c];simp only[dI,MU,pA,jt];rw[Gv FU f a b (by rw[fl];omega) VW d VW i VW (Fm.o6 f VW c)];simp only[dI];rw[w8 (by rw[Fm.YF];exact hw)];rfl
def jy.aov{g:List Ty}{f:Fm}(h:jy g f):∀m:Int,((g.length+f.aor:Nat):Int)<=m->f.aov m=true:=by
 induction h with
 |eq c d=>
  intro m hm;simp only[Fm.dL,ee] at hm;simp only[Fm.fo,CW,Xd,Lh,gJ];exact⟨c.aov m VW,d.aov m VW⟩
 |two _ _ _ a b=>
  intro m hm;simp only[Fm.dL,ee] at hm;simp only[Fm.fo,CW,Xd,Lh,gJ,B1];exact⟨a m VW,b m VW⟩
 |q _ _ _ ih=>
  intro m hm;simp only[Fm.dL,ee] at hm;simp only[Fm.fo,CW,Xd,Lh,B1];exact ih m abv
def Tm.HW(φ:Int->Int->Tm)(b:Int):Tm->Tm
 |.mk k i s l=>if k=1 then φ i b else .mk k i s (l.attach.map λx=>Tm.HW φ (b+eT k) x.1)
decreasing_by
 have:=ahe x.2;simp only[Tm.mk.sizeOf_spec];omega
def Tm.A7(φ:Int->Int->Tm)(b k i:Int)(s:Ty)(l:List Tm):(Tm.mk k i s l).HW φ b=if k=1 then φ i b else .mk k i s (l.map (Tm.HW φ (b+eT k))):=by
 rw[Tm.HW]
 congr 2
 exact aku
def yj(k b:Int)(a:-1000000000000<=b)(c:b<=1000000000000):fq (eo k 2) (eH .i64 b 1) b=b+eT k:=by
 unfold eT
 by_cases h:k=2
 .subst h;rw[show eo 2 2=true from rfl,dO rfl];exact e9 VW VW
 .rw[show eo k 2=false by simpa[eo] using h,dK h];show b=b+0;omega
def xB{h:Int->Int->Option Tm}{φ:Int->Int->Tm}{M:Int}(D:∀i b,0<=i->i<=M->0<=b->b<=10000000000->h i b=some (φ i b)):∀(n:Nat) (t:Tm) (b:Int),t.aor<=n->t.aor<=50000000->t.ok=true->t.aov M=true->0<=b->b+t.aor<=10000000000->hD n t b (λ(s:Unit) (q:Int) (r:Int)=>rh (h q r) s) ()=some (t.HW φ b,()):=by
 intro n
 induction n with
 |zero=>intro t b h;have:=t.eF;omega
 |succ n ih=>
  intro t b hn F w x G y;cases t with
  |mk k i s l=>
   rw[Tm.dL] at hn F y;have hlen:=Tm.fA l;have f:=w;rw[Tm.gX,gJ] at w;have H:=Ty.xD w.1;rw[Tm.fo,gJ,TM,kZ] at x;rw[hD,Tm.A7]
   by_cases A:k=1
   .subst A;have hi:=(Tm.lM f).2.1;rw[dO abE,dO rfl];simp only[Tm.gn];rw[D i b hi x.1 G VW,GJ,dP]
   .rw[dK (by simpa[eo] using A),dK A];simp only[Tm.fx,Tm.ey,Tm.eD,Tm.gn,dY];rw[pK VW,dI,ei VW,dU,yj k b VW VW];have I:=hV k
    have loop:∀(ts:List Tm) (j:Nat) (v:List Tm),(∀t∈ts,t∈l)->v.length+ts.length<=50000000->fa (λ(J:Int) (B:Tm)=>(re λ(a:List Tm) (v107:Unit)=>
       dR (hD n B (b+eT k) (λ(s:Unit) (q:Int) (r:Int)=>rh (h q r) s) v107) λc o=>
       gq (fM a [c])<|some ((.next ((fW a [c]),o)):fp ((List Tm)×Unit) (Tm×Unit)))) ts j (v,())=some (.inl (v++ts.map (Tm.HW φ (b+eT k)),())):=by
     intro ts
     induction ts with
     |nil=>intro j v _ _;simp|cons t ts C=>
      intro j v hm K;simp only[kY] at K;have d:=hm t abm;have L:=eu Tm.aor d;rw[eV];simp only[re];rw[ih t (b+eT k) VW VW ((Tm.lM f).2.2.2.1 t d) (x.2 t d) VW VW,dP,fk abv,dU];simp only[dI,eQ];rw[ig];have:=C (j+1) (v++[t.HW φ (b+eT k)]) (λu hu=>hm u (by simp[hu])) abv;rw[this];simp
    rw[loop l 0 [] (λt h=>h) abv,dI];simp
structure Bd (t:Tm):Prop where
 ok:t.ok=true
 aov:t.aov 1000000000000=true
 aor:t.aor<=50000000
def Tm.SF(f c:Int)(q:0<=f):∀(t:Tm) (b:Int),0<=b->t.ok=true->t.HW (λi b=>.mk 1 (if f<=i-b then i+c else i) (.mk 0 []) []) b=t.up (f+b) c:=by
 intro t
 induction t using Tm.ind with
 |h k i s l ih=>
  intro b r a;have hi:=Tm.lM a;rw[Tm.A7,Tm.fE]
  by_cases d:k=1
  .subst d;rw[dO rfl]
   have n:l=[]:=by
    have:=hi.2.2.2.2;unfold gW at this;rw[dO (.inl rfl)] at this;exact Cd VW
   have hs:s=.mk 0 []:=by
    rw[Tm.gX] at a;simp only[Tm.node,gJ] at a;have:=a.1.2;rw[dK aal] at this;exact(Ty.mB s).1 this
   subst n;subst hs;simp only[rQ,zT]
   congr 1
   by_cases h:f+b<=i
   .rw[dO h,dO VW]
   .rw[dK h,dK VW]
  .rw[dK d,dK (λh=>d h.1)];have o:=hV k
   congr 1
   exact th λx j=>by rw[ih x j (b+eT k) VW (hi.2.2.2.1 x j),show f+(b+eT k)=f+b+eT k by omega]
def Ef{t:Tm}{f c:Int}(h:Bd t)(d:0<=f)(j:f<=10000000000)(q:0<=c)(k:c<=10000000000):r8 t f c=some (t.up f c):=by
 unfold r8 oZ;rw[xB (h:=λl n=>uG l n f c) (φ:=λi b=>.mk 1 (if f<=i-b then i+c else i) (.mk 0 []) []) (M:=1000000000000) (λi b r s u v=>?_) FU t 0 (by have:=fl;have:=h.aor;omega) h.aor h.ok h.aov VW (by have:=h.aor;omega)]
 .rw[dP,dP,Tm.SF f c d t 0 VW h.ok,show f+0=f by omega]
 .unfold uG l_;simp only[dI];rw[fF VW VW,e9 VW VW]
  by_cases a:f<=i-b
  .rw[dO a,show qz (i-b) f=true by rw[ju];exact a];rfl
  .rw[dK a,show qz (i-b) f=false by
    cases o:qz (i-b) f with
    |false=>rfl|true=>exact absurd ((ju _ _).1 o) a];rfl
def rP(k:Int):m7 k=some (i_ k):=by
 unfold m7 i_;rw[u6];simp only[qz,Tq,w5];rw[<-Bool.decide_and];exact L'.2 (by simp only[TM];omega)
def Fm.p_{k:Int}{s:Ty}{ts:List Tm}{l:List Fm}(h:(Fm.mk k s ts l).ok=true):s.aor<=64/\(∀t∈ts,t.ok=true)/\(∀f∈l,f.ok=true):=by
 rw[Fm.gX] at h;simp only[gJ,kZ] at h;refine⟨?_,h.1.2,h.2⟩;have hn:=h.1.1;unfold Fm.node at hn
 split at hn
 .simp only[gJ] at hn;rw[(Ty.mB s).1 hn.1.1,Ty.dL];simp[ee]
 .split at hn
  .simp only[gJ] at hn;rw[(Ty.mB s).1 hn.1.1,Ty.dL];simp[ee]
  .simp only[gJ,oU] at hn;exact fI hn.1.1.2
def Fm.HW(ψ:Tm->Int->Tm)(b:Int):Fm->Fm
 |.mk k s ts l=>.mk k s (ts.map λt=>ψ t b) (l.attach.map λx=>Fm.HW ψ (b+qB k) x.1)
decreasing_by
 have:=ahe x.2;simp only[Fm.mk.sizeOf_spec];omega
def Fm.A7(ψ:Tm->Int->Tm)(b k:Int)(s:Ty)(ts:List Tm)(l:List Fm):(Fm.mk k s ts l).HW ψ b=.mk k s (ts.map λt=>ψ t b) (l.map (Fm.HW ψ (b+qB k))):=by
 rw[Fm.HW]
 congr 1
 exact aku
def o8{h:Tm->Int->Option Tm}{ψ:Tm->Int->Tm}(P:∀t b,Bd t->0<=b->b<=1000000000->h t b=some (ψ t b)):∀(n:Nat) (f:Fm) (b:Int),f.aor<=n->f.aor<=50000000->f.ok=true->f.aov 1000000000000=true->0<=b->b+f.aor<=1000000000->fH n f b (λ(s:Unit) (A:Tm) (B:Int)=>rh (h A B) s) ()=some (f.HW ψ b,()):=by
 intro n
 induction n with
 |zero=>intro f b h;have:=f.eF;omega
 |succ n ih=>
  intro f b hn Q R G S H;cases f with
  |mk k s ts l=>
   rw[Fm.dL] at hn Q H;have T:=je Tm.aor ts λt _=>t.eF;have U:=je Fm.aor l λt _=>t.eF;obtain⟨V,I,J⟩:=Fm.p_ R;rw[Fm.fo,gJ,kZ,kZ] at G;rw[fH,Fm.A7];simp only[Fm.fx,Fm.ey,Fm.eD,Fm.ik,dY];rw[pK VW,dI,ei VW,dU];have W:=uI k
   have w:∀(us:List Tm) (j:Nat) (v:List Tm),(∀t∈us,t∈ts)->v.length+us.length<=50000000->fa (λ(X:Int) (K:Tm)=>(re λ(v91:List Tm) (L:Unit)=>
      dR (rh (h K b) L) λq C=>
      gq (fM v91 [q])<|some ((.next ((fW v91 [q]),C)):fp ((List Tm)×Unit) (Fm×Unit)))) us j (v,())=some (.inl (v++us.map (λt=>ψ t b),())):=by
    intro us
    induction us with
    |nil=>intro j v _ _;simp|cons t us x=>
     intro j v hm M;simp only[kY] at M;have d:=hm t abm;have N:=eu Tm.aor d;rw[eV];simp only[re];rw[P t b ⟨I t d,G.1 t d,VW⟩ S VW,GJ,dP,fk abv,dU];simp only[dI,eQ];rw[ig];have:=x (j+1) (v++[ψ t b]) (λu hu=>hm u (by simp[hu])) abv;rw[this];simp
   rw[w ts 0 [] (λt h=>h) abv,dI];simp only[ew,re];rw[rP,dI]
   have y:∀(us:List Fm) (j:Nat) (v:List Fm),(∀t∈us,t∈l)->v.length+us.length<=50000000->fa (λ(D:Int) (i:Fm)=>(re λ(a:List Fm) (v212:Unit)=>
      dR (fH n i (b+qB k) (λ(s:Unit) (A:Tm) (B:Int)=>rh (h A B) s) v212) λc o=>
      gq (fM a [c])<|some ((.next ((fW a [c]),o)):fp ((List Fm)×Unit) (Fm×Unit)))) us j (v,())=some (.inl (v++us.map (Fm.HW ψ (b+qB k)),())):=by
    intro us
    induction us with
    |nil=>intro j v _ _;simp|cons t us x=>
     intro j v hm M;simp only[kY] at M;have d:=hm t abm;have N:=eu Fm.aor d;rw[eV];simp only[re];rw[ih t (b+qB k) VW VW (J t d) (G.2 t d) VW VW,dP,fk abv,dU];simp only[dI,eQ];rw[ig];have:=x (j+1) (v++[t.HW ψ (b+qB k)]) (λu hu=>hm u (by simp[hu])) abv;rw[this];simp
   have fin:(gq (e_ l)<|dH (fa (λ(D:Int) (i:Fm)=>(re λ(a:List Fm) (v212:Unit)=>
      dR (fH n i (b+qB k) (λ(s:Unit) (A:Tm) (B:Int)=>rh (h A B) s) v212) λc o=>
      gq (fM a [c])<|some ((.next ((fW a [c]),o)):fp ((List Fm)×Unit) (Fm×Unit)))) l 0 ([],())) (fQ (re λ(a:List Fm) (v212:Unit)=>some ((Fm.mk k s ([]++ts.map λt=>ψ t b) a),v212)) (λr=>some r)))=some (Fm.mk k s (ts.map λt=>ψ t b) (l.map (Fm.HW ψ (b+qB k))),()):=by
    rw[ei VW,dU,y l 0 [] (λt h=>h) abv,dI];simp
   by_cases F:i_ k=true
   .rw[dO F]
    have O:b+qB k=b+1:=by unfold qB;rw[dO F]
    rw[O] at fin|-;rw[e9 VW VW];exact fin
   .rw[dK F]
    have O:b+qB k=b:=by unfold qB;rw[dK F];omega
    rw[O] at fin|-;exact fin
def Fm.SF(f c:Int):∀(g:Fm) (b:Int),g.HW (λt b=>t.up (f+b) c) b=g.up (f+b) c:=by
 intro g
 induction g using Fm.ind with
 |h k s ts l ih=>
  intro b;rw[Fm.A7,Fm.fE]
  congr 1
  exact th λx a=>by rw[ih x a (b+qB k),show f+(b+qB k)=f+b+qB k by omega]
def uX{g:Fm}{f c:Int}(d:g.ok=true)(hn:g.aor<=50000000)(i:g.aov 1000000000000=true)(o:0<=f)(j:f<=1000000000)(k:0<=c)(a:c<=10000000000):lk g f c=some (g.up f c):=by
 unfold lk;rw[o8 (h:=λl n=>mH l n f c) (ψ:=λt b=>t.up (f+b) c) (λt b h q r=>?_) FU g 0 (by have:=fl;omega) hn d i VW VW]
 .rw[dP,Fm.SF f c g 0,show f+0=f by omega]
 .unfold mH;rw[e9 VW VW,Ef h VW VW k a];rfl
def Tm.aan{i:Int}{s:Ty}{l:List Tm}(a:(Tm.mk 1 i s l).ok=true):l=[]/\s=.mk 0 []:=by
 have hi:=Tm.lM a;constructor
 .have:=hi.2.2.2.2;unfold gW at this;rw[dO (.inl rfl)] at this;exact Cd VW
 .rw[Tm.gX] at a;simp only[Tm.node,gJ] at a;have:=a.1.2;rw[dK aal] at this;exact(Ty.mB s).1 this
def Tl(a:Int)(s:Tm)(i b:Int):Tm:=if i-b=a then s.up 0 (a+b)else if a<i-b then .mk 1 (i-1) (.mk 0 []) [] else .mk 1 i (.mk 0 []) []
def Tm.O4(a:Int)(s:Tm):∀(t:Tm) (b:Int),t.ok=true->t.HW (Tl a s) b=Tm.gP (a+b) t s:=by
 intro t
 induction t using Tm.ind with
 |h k i ty l ih=>
  intro b d;have hi:=Tm.lM d;rw[Tm.A7,Tm.fN]
  by_cases c:k=1
  .subst c;obtain⟨rfl,rfl⟩:=Tm.aan d;rw[dO rfl,dO rfl];unfold Tl Tm.lz
   by_cases f:i-b=a
   .rw[dO f,dO VW]
   .rw[dK f,dK (show¬i=a+b by omega)]
    by_cases j:a<i-b
    .rw[dO j,dO VW]
    .rw[dK j,dK VW]
  .rw[dK c,dK c]
   congr 1
   exact th λx n=>by rw[ih x n (b+eT k) (hi.2.2.2.1 x n),show a+(b+eT k)=a+b+eT k by omega]
def JL(s:Tm):Prop:=∀c,0<=c->c<=10000000000->r8 s 0 c=some (s.up 0 c)
def Bd.lift{s:Tm}(h:Bd s):JL s:=λc a b=>Ef h VW VW a b
def QQ{t s:Tm}{a:Int}(h:Bd t)(hs:JL s)(Q:0<=a)(J:a<=1000000000):Ap t a s=some (Tm.gP a t s):=by
 unfold Ap oZ;have hn:=h.aor
 have key:∀(n:Nat) (t:Tm) (b:Int),t.aor<=n->t.aor<=50000000->t.ok=true->t.aov 1000000000000=true->0<=b->b+t.aor<=1000000000->hD n t b (λ(o:Unit) (r:Int) (q:Int)=>rh (o7 r q a s) o) ()=hD n t b (λ(o:Unit) (r:Int) (q:Int)=>rh (if q<=1000000000 then o7 r q a s else some (Tl a s r q)) o) ():=by
  intro n
  induction n with
  |zero=>intro t b h;have:=t.eF;omega
  |succ n ih=>
   intro t b hn A K I L D;cases t with
   |mk k i ty l=>
    rw[Tm.dL] at hn A D;rw[Tm.fo,gJ,TM,kZ] at I;have hi:=Tm.lM K;have N:=hV k;rw[hD,hD]
    by_cases F:k=1
    .subst F;rw[dO abE,dO abE,dO VW]
    .rw[dK (by simpa[eo] using F),dK (by simpa[eo] using F)];simp only[Tm.fx,Tm.ey,Tm.eD,Tm.gn,dY];rw[yj k b VW VW]
     have loop:∀(ts:List Tm) (j:Nat) (v:List Tm),(∀t∈ts,t∈l)->fa (λ(G:Int) (x:Tm)=>(re λ(d:List Tm) (v107:Unit)=>
        dR (hD n x (b+eT k) (λ(o:Unit) (r:Int) (q:Int)=>rh (o7 r q a s) o) v107) λf w=>
        gq (fM d [f])<|some ((.next ((fW d [f]),w)):fp ((List Tm)×Unit) (Tm×Unit)))) ts j (v,())=fa (λ(G:Int) (x:Tm)=>(re λ(d:List Tm) (v107:Unit)=>
        dR (hD n x (b+eT k) (λ(o:Unit) (r:Int) (q:Int)=>rh (if q<=1000000000 then o7 r q a s else some (Tl a s r q)) o) v107) λf w=>
        gq (fM d [f])<|some ((.next ((fW d [f]),w)):fp ((List Tm)×Unit) (Tm×Unit)))) ts j (v,()):=by
      intro ts
      induction ts with
      |nil=>intro j v _;rfl|cons t ts H=>
       intro j v hm;have y:=hm t abm;have O:=eu Tm.aor y;rw[eV,eV];simp only[re];rw[ih t (b+eT k) VW VW (hi.2.2.2.1 t y) (I.2 t y) VW VW]
       congr 1
       funext c
       cases c with
       |next st=>
        obtain⟨P,u⟩:=st;exact H (j+1) P (λu hu=>hm u (by simp[hu]))
       |_=>rfl
     rw[loop l 0 [] (λt h=>h)]
 rw[key FU t 0 (by have:=fl;omega) hn h.ok h.aov VW VW];rw[xB (h:=λr q=>if q<=1000000000 then o7 r q a s else some (Tl a s r q)) (φ:=Tl a s) (M:=1000000000000) (λi b L R S T=>?_) FU t 0 (by have:=fl;omega) h.aor h.ok h.aov VW VW]
 .rw[dP,dP,Tm.O4 a s t 0 h.ok,show a+0=a by omega]
 .by_cases A:b<=1000000000
  .rw[dO A];unfold o7 l_ Tl;rw[fF VW VW,e9 VW VW]
   by_cases B:i-b=a
   .rw[dO (by simpa[eo] using B),dO B,hs _ VW VW];rfl
   .rw[dK (by simpa[eo] using B),dK B]
    by_cases C:a<i-b
    .rw[dO (by rw[hJ];exact C),dO C,fF VW VW];rfl
    .rw[dK (by rw[hJ];exact C),dK C];rfl
  .rw[dK A]
def Fm.O4(a:Int)(s:Tm):∀(g:Fm) (b:Int),g.HW (λt b=>Tm.gP (a+b) t s) b=Fm.gP (a+b) g s:=by
 intro g
 induction g using Fm.ind with
 |h k ty ts l ih=>
  intro b;rw[Fm.A7,Fm.fN]
  congr 1
  exact th λx c=>by rw[ih x c (b+qB k),show a+(b+qB k)=a+b+qB k by omega]
def vN{g:Fm}{s:Tm}{a:Int}(G:g.ok=true)(hn:g.aor<=50000000)(N:g.aov 1000000000000=true)(hs:JL s)(T:0<=a)(O:a<=100000000):k0 g a s=some (Fm.gP a g s):=by
 unfold k0
 have key:∀(n:Nat) (f:Fm) (b:Int),f.aor<=n->f.aor<=50000000->f.ok=true->0<=b->b+f.aor<=100000000->fH n f b (λ(q:Unit) (x:Tm) (w:Int)=>rh (jg x w a s) q) ()=fH n f b (λ(q:Unit) (x:Tm) (w:Int)=>rh (if w<=100000000 then jg x w a s else some (Tm.gP (a+w) x s)) q) ():=by
  intro n
  induction n with
  |zero=>intro f b h;have:=f.eF;omega
  |succ n ih=>
   intro f b hn H G P J;cases f with
   |mk k ty ts l=>
    rw[Fm.dL] at hn H J;obtain⟨_,_,K⟩:=Fm.p_ G;have Q:=uI k;rw[fH,fH];simp only[Fm.fx,Fm.ey,Fm.eD,Fm.ik,dY,dO (show b<=100000000 by omega),rP,dI]
    have loop:∀(us:List Fm) (j:Nat) (v:List Fm) (B:Int),0<=B->B+ee Fm.aor l<=100000000->(∀t∈us,t∈l)->fa (λ(C:Int) (y:Fm)=>(re λ(d:List Fm) (v212:Unit)=>
       dR (fH n y B (λ(q:Unit) (x:Tm) (w:Int)=>rh (jg x w a s) q) v212) λi A=>
       gq (fM d [i])<|some ((.next ((fW d [i]),A)):fp ((List Fm)×Unit) (Fm×Unit)))) us j (v,())=fa (λ(C:Int) (y:Fm)=>(re λ(d:List Fm) (v212:Unit)=>
       dR (fH n y B (λ(q:Unit) (x:Tm) (w:Int)=>rh (if w<=100000000 then jg x w a s else some (Tm.gP (a+w) x s)) q) v212) λi A=>
       gq (fM d [i])<|some ((.next ((fW d [i]),A)):fp ((List Fm)×Unit) (Fm×Unit)))) us j (v,()):=by
     intro us
     induction us with
     |nil=>intro j v B _ _ _;rfl|cons t us L=>
      intro j v B D M hm;have F:=hm t abm;have R:=eu Fm.aor F;rw[eV,eV];simp only[re];rw[ih t B VW VW (K t F) D VW]
      congr 1
      funext c
      cases c with
      |next st=>
       obtain⟨S,u⟩:=st;exact L (j+1) S B D M (λu hu=>hm u (by simp[hu]))
      |_=>rfl
    congr 1
    funext U
    congr 1
    congr 1
    funext o
    cases o with
    |inr r=>rfl|inl st=>
     obtain⟨v,u⟩:=st;simp only[ew,re]
     by_cases I:i_ k=true
     .rw[dO I,dO I,e9 VW VW];rw[show(([]:List Fm),u)=([],())from rfl,loop l 0 [] (b+1) VW VW (λt h=>h)]
     .rw[dK I,dK I];rw[show(([]:List Fm),u)=([],())from rfl,loop l 0 [] b VW VW (λt h=>h)]
 rw[key FU g 0 (by have:=fl;omega) hn G VW VW];rw[o8 (h:=λx w=>if w<=100000000 then jg x w a s else some (Tm.gP (a+w) x s)) (ψ:=λt b=>Tm.gP (a+b) t s) (λt b h P V=>?_) FU g 0 (by have:=fl;omega) hn G N VW VW]
 .rw[dP,Fm.O4 a s g 0,show a+0=a by omega]
 .by_cases H:b<=100000000
  .rw[dO H];unfold jg;rw[e9 VW VW,QQ h hs VW VW];rfl
  .rw[dK H]
def He{a i b c:Int}(d:-1000000000000000<=i)(f:i<=1000000000000000)(j:0<=b)(k:b<=10000000000)(l:0<=c)(n:c<=10000000000):oQ i b a c=some (c+if i-b=a then 1 else 0):=by
 unfold oQ;rw[fF VW VW]
 by_cases h:i-b=a
 .rw[dO (by simpa[eo] using h),dO h,e9 VW VW]
 .rw[dK (by simpa[eo] using h),dK h,ti]
def Ht(a:Int):∀(n:Nat) (t:Tm) (b c:Int),t.aor<=n->t.aor<=50000000->t.ok=true->t.aov 1000000000000=true->0<=b->b+t.aor<=1000000000->0<=c->c+t.aor<=1000000000->jN n t b (λ(s:Int) (f:Int) (o:Int)=>oQ f o a s) c=some (c+(t.aox (a+b):Int)):=by
 intro n
 induction n with
 |zero=>intro t b c h;have:=t.eF;omega
 |succ n ih=>
  intro t b c hn C D A F q B G;cases t with
  |mk k i s l=>
   rw[Tm.dL] at hn C q G;have hlen:=Tm.fA l;have hi:=Tm.lM D;rw[Tm.fo,gJ,TM,kZ] at A;have H:=hV k;rw[jN,Tm.fu];simp only[dY]
   have loop:∀(ts:List Tm) (j:Nat) (v:Int),(∀t∈ts,t∈l)->0<=v->v+ee Tm.aor ts<=1000000000->fa (λ(I:Int) (r:Tm)=>(λ(v28:Int)=>
      dH (jN n r (b+eT k) (λ(s:Int) (f:Int) (o:Int)=>oQ f o a s) v28) λw=>
      some ((.next w):fp Int Int))) ts j v=some (.inl (v+(ee (Tm.aox (a+b+eT k)) ts:Int))):=by
    intro ts
    induction ts with
    |nil=>intro j v _ _ _;simp[ee]|cons t ts x=>
     intro j v hm v0 v1;simp only[ee] at v1|-;have d:=hm t abm;have J:=eu Tm.aor d;have K:=t.iZ (a+b+eT k);rw[eV,ih t (b+eT k) v VW VW (hi.2.2.2.1 t d) (A.2 t d) VW VW v0 VW,show a+(b+eT k)=a+b+eT k by omega];simp only[dI,eQ];rw[x (j+1) _ (λu hu=>hm u (by simp[hu])) VW VW]
     congr 2
     push_cast
     omega
   by_cases y:k=1
   .subst y;rw[dO (show eo (Tm.mk 1 i s l).aop 1=true from rfl)];simp only[Tm.ey,Tm.eD,Tm.gn];rw[He VW VW F VW B VW,dI,yj 1 b VW VW,ei VW,dU];rw[loop l 0 _ (λt h=>h) (by split<;>omega) (by split<;>omega)];simp only[dI,ew]
    congr 1
    by_cases e:i-b=a
    .rw[dO e,dO (show True/\i=a+b from⟨trivial,VW⟩)];omega
    .rw[dK e,dK (show¬(True/\i=a+b)fromλh=>e VW)];omega
   .rw[dK (show¬eo (Tm.mk k i s l).aop 1=true by simpa[eo] using y),dK (show¬(k=1/\i=a+b)fromλh=>y h.1)];simp only[Tm.ey,Tm.eD,Tm.gn];rw[yj k b VW VW,ei VW,dU];rw[loop l 0 c (λt h=>h) B VW];simp only[dI,ew]
    congr 1
    push_cast
    omega
def Cw{t:Tm}(a:Int)(h:Bd t):tT t a=some (t.aox a:Int):=by
 unfold tT sq;have hn:=h.aor;rw[Ht a FU t 0 0 (by have:=fl;omega) hn h.ok h.aov VW VW VW VW];simp only[dI];rw[show a+0=a by omega,Int.zero_add]
def BZ{a:Int}(Y:0<=a)(M:a<=100000000):∀(n:Nat) (f:Fm) (b c:Int),f.aor<=n->f.aor<=50000000->f.ok=true->f.aov 1000000000000=true->0<=b->b+f.aor<=100000000->0<=c->c+f.aor<=1000000000->mw n f b (λ(s:Int) (w:Tm) (y:Int)=>jC w y s a) c=some (c+(f.aox (a+b):Int)):=by
 intro n
 induction n with
 |zero=>intro f b c h;have:=f.eF;omega
 |succ n ih=>
  intro f b c hn N O A Z B P Q;cases f with
  |mk k s ts l=>
   rw[Fm.dL] at hn N B Q;have R:=je Tm.aor ts λt _=>t.eF;have S:=je Fm.aor l λt _=>t.eF;obtain⟨_,C,D⟩:=Fm.p_ O;rw[Fm.fo,gJ,kZ,kZ] at A;have T:=uI k;rw[mw,Fm.fu];simp only[Fm.ey,Fm.eD,Fm.ik,dY];rw[ei VW,dU]
   have o:∀(us:List Tm) (j:Nat) (v:Int),(∀t∈us,t∈ts)->0<=v->v+ee Tm.aor us<=1000000000->fa (λ(U:Int) (F:Tm)=>(λ(G:Int)=>
      dH (jC F b G a) λH=>
      some ((.next H):fp Int Int))) us j v=some (.inl (v+(ee (Tm.aox (a+b)) us:Int))):=by
    intro us
    induction us with
    |nil=>intro j v _ _ _;simp[ee]|cons t us i=>
     intro j v hm v0 v1;simp only[ee] at v1|-;have d:=hm t abm;have I:=eu Tm.aor d;have V:=t.iZ (a+b);rw[eV];unfold jC at i|-;rw[e9 (a:=a) VW VW,Cw (a+b) ⟨C t d,A.1 t d,VW⟩];simp only[dI,eQ];rw[e9 VW VW];have:=i (j+1) (v+(t.aox (a+b):Int)) (λu hu=>hm u (by simp[hu])) VW VW;rw[e9 (a:=a) VW VW] at this;rw[this]
     congr 2
     push_cast
     omega
   rw[o ts 0 c (λt h=>h) P VW];have W:=kI (f:=Tm.aox (a+b)) (g:=Tm.aor) (l:=ts) λx _=>x.iZ _;simp only[dI,ew];rw[rP,dI]
   have q:∀(us:List Fm) (j:Nat) (v:Int),(∀t∈us,t∈l)->0<=v->v+ee Fm.aor us<=1000000000->fa (λ(X:Int) (J:Fm)=>(λ(v72:Int)=>
      dH (mw n J (b+qB k) (λ(s:Int) (w:Tm) (y:Int)=>jC w y s a) v72) λK=>
      some ((.next K):fp Int Int))) us j v=some (.inl (v+(ee (Fm.aox (a+b+qB k)) us:Int))):=by
    intro us
    induction us with
    |nil=>intro j v _ _ _;simp[ee]|cons t us i=>
     intro j v hm v0 v1;simp only[ee] at v1|-;have d:=hm t abm;have I:=eu Fm.aor d;have V:=t.iZ (a+b+qB k);rw[eV,ih t (b+qB k) v VW VW (D t d) (A.2 t d) VW VW v0 VW,show a+(b+qB k)=a+b+qB k by omega];simp only[dI,eQ];rw[i (j+1) _ (λu hu=>hm u (by simp[hu])) VW VW]
     congr 2
     push_cast
     omega
   have fin:=q l 0 (c+(ee (Tm.aox (a+b)) ts:Int)) (λt h=>h) VW VW
   by_cases r:i_ k=true
   .rw[dO r]
    have L:qB k=1:=by unfold qB;rw[dO r]
    rw[L] at fin|-;rw[e9 VW VW,ei VW,dU,fin];simp only[dI,ew]
    congr 1
    push_cast
    omega
   .rw[dK r]
    have L:qB k=0:=by unfold qB;rw[dK r]
    rw[L] at fin|-;rw[ti b] at fin;rw[ei VW,dU,fin];simp only[dI,ew]
    congr 1
    push_cast
    omega
def uB{f:Fm}{a:Int}(c:f.ok=true)(hn:f.aor<=50000000)(d:f.aov 1000000000000=true)(h:0<=a)(b:a<=100000000):kR f a=some (f.aox a:Int):=by
 unfold kR;rw[BZ h b FU f 0 0 (by have:=fl;omega) hn c d VW VW VW VW];simp only[dI];rw[show a+0=a by omega,Int.zero_add]
noncomputable def l9 (f:Fm) (t:Tm):Fm×Int:=if 4096<(Fm.gP 0 f t).aor then(.mk 0 (.mk 0 []) [] [],4)else(Fm.gP 0 f t,0)
noncomputable def MM (f:Fm) (g:List Ty):Int:=if xP g≠0 then xP g else if f.err≠0 then f.err else f.zC g
def jf.of{g:List Ty}(h:xP g=0):jf g/\g.length<=16:=by
 unfold xP at h
 split at h
 .cases h
 .rename_i c;refine⟨λs hs=>?_,VW⟩
  have key:∀l:List Ty,fC (l.map Ty.err)=0->∀s∈l,s.err=0:=by
   intro l
   induction l with
   |nil=>intro _ s hs;cases hs
   |cons a l ih=>
    intro h s hs;simp only[pP,fC] at h
    by_cases b:a.err=0
    .rw[dO b] at h;rcases kX.1 hs with rfl|hs
     .exact b
     .exact ih h s hs
    .rw[dK b] at h;exact absurd h b
  exact key g h s hs
def Kd{g:List Ty}(hg:jf g)(c:g.length<=1000000):nj g=some (g.map pZ):=by
 unfold nj;simp only[dY]
 rw[ei VW,dU,kh pZ g 0 [] abv (λj x v a b=>by
  rw[mi (hg x a),dI,fk (by simpa using b),dU,ig])]
 simp
def vK{f:Fm}{g:List Ty}(hw:f.wt<=1000000000)(c:g.length<=1000000)(h:∀t∈g,t.aor<=1000000000):lL g f=some (MM f g):=by
 unfold lL mu MM;rw[tx g c h,dI]
 by_cases a:xP g=0
 .rw[dK (by rw[eW];simpa using a),dK (by simpa using a),iz hw,dI]
  by_cases he:f.err=0
  .obtain⟨hg,d⟩:=jf.of a;obtain⟨b,hn⟩:=Fm.iK he;rw[dK (by rw[eW];simpa using he),dK (by simpa using he),AU f b FU (by have:=fl;omega) g hg VW hn];rfl
  .rw[dO (by rw[eW];exact he),dO he];rfl
 .rw[dO (by rw[eW];exact a),dO a]
def xI{f:Fm}{t:Tm}(he:f.err=0)(b:t.err=0)(i:f.aov 1000000000000=true)(d:t.aov 1000000000000=true):rT f t=some (l9 f t):=by
 obtain⟨a,hn⟩:=Fm.iK he;obtain⟨c,h⟩:=Tm.iK b;have hw:=f.kQ a;have l:=t.kQ c;have r:=t.eF;have n:=f.iZ 0;have o:=Fm.r6 t f 0 a;unfold rT l9;rw[qi VW,dP,sY VW,dP,uB a VW i VW VW,dI,dO he,dO b];rw[fF VW VW]
 have hmul:(f.aox 0:Int)*((t.aor:Int)-1)=((f.aox 0*t.aor:Nat):Int)-(f.aox 0:Int):=by rw[aei,acM];push_cast;rfl
 have q:f.aox 0*t.aor<=4096*4096:=Oa VW h;have j:f.aox 0<=f.aox 0*t.aor:=agC _ VW;rw[Bs (by rw[hmul];omega) (by rw[hmul];omega),hmul,e9 VW VW]
 by_cases k:4096<(Fm.gP 0 f t).aor
 .rw[dO (by rw[hJ];omega),dO k]
 .rw[dK (by rw[hJ];omega),dK k,vN a VW i (Bd.lift ⟨c,d,VW⟩) VW VW];rfl
def I4{f:Fm}{s:Tm}(he:f.err=0)(b:s.err=0)(j:f.aov 536870912=true)(c:s.aov 536870912=true)(d:(Fm.gP 0 f s).ok=true):yg f 0 s=some (l9 f s):=by
 obtain⟨a,hn⟩:=Fm.iK he;obtain⟨h,i⟩:=Tm.iK b;have hw:=f.kQ a;have n:=s.kQ h;have o:=s.eF;have q:=f.iZ 0;have r:=Fm.r6 s f 0 a;unfold yg l9;rw[iz VW,he];simp only[dI,eW,ne_eq,Q_,jt,dY,jA,hJ,lW,sx];rw[dK VW,jQ VW,b,A1 FU f _ (by rw[fl];omega) VW,j,EM _ VW,c];simp only[dI,Q_,jt,if_true,MU,pA];rw[sP FU f (by rw[fl];omega) VW,Ja FU f 0 (by rw[fl];omega) VW VW VW,oq FU s (by rw[fl];omega) VW];simp only[dI];rw[fF VW VW]
 have hmul:(f.aox 0:Int)*((s.aor:Int)-1)=((f.aox 0*s.aor:Nat):Int)-(f.aox 0:Int):=by rw[aei,acM];push_cast;rfl
 have t:f.aox 0*s.aor<=4096*4096:=Oa VW i;have k:f.aox 0<=f.aox 0*s.aor:=agC _ VW;rw[Bs (by rw[hmul];omega) (by rw[hmul];omega),hmul,e9 VW VW]
 by_cases l:4096<(Fm.gP 0 f s).aor
 .rw[dO VW,dO l]
 .rw[dK VW,dK l,PZ FU f 0 0 s (by rw[fl];omega) VW VW VW VW (Fm.o6 f VW j) a VW (Tm.o6 s VW c)];simp only[dI,ti];have u:=Fm.kQ _ d;rw[w8 VW];rfl
def MN{α:Type}{E:α->α->Option Bool}{m l:List α}(hlen:l.length=m.length)(h:∀x∈l,∀y,∃r,E x y=some r/\(r=true↔x=y)):∃o:Unit⊕Bool,fa (λ(j:Int) (x:α) (_:Unit)=>dH (dW m j) λy=>dH (E x y) λz=>if z then(some (fp.next ()):Option (fp Unit Bool))else some (fp.ret false)) l 0 ()=some o/\(o=.inl ()/\l=m\/o=.inr false/\l≠m):=by
 let p:α->α->Bool:=λx y=>(E x y).getD false
 have c:∀x∈l,∀y,E x y=some (p x y)/\(p x y=true↔x=y):=by
  intro x a y;obtain⟨r,d,b⟩:=h x a y
  have e:p x y=r:=by show(E x y).getD false=r;rw[d];rfl
  rw[e];exact⟨d,b⟩
 have key:=yi (F:=λ(j:Int) (x:α) (_:Unit)=>dH (dW m j) λy=>dH (E x y) λz=>if z then some (fp.next ())else some (fp.ret false)) p m l 0 m rfl hlen (by
  intro k x y a hy;rw[gS,hy];simp only[dI];rw[(c x a y).1]
  rfl)
 have he:=yv p l m λx a y=>(c x a y).2;rw[key];cases b:vU p l m with
 |false=>rw[b] at he;exact⟨_,rfl,.inr ⟨rfl,λe=>absurd (he.2 e) abm⟩⟩
 |true=>rw[b] at he;exact⟨_,rfl,.inl ⟨rfl,he.1 rfl⟩⟩
def Cg:∀(n:Nat) (a b:Fm),a.wt<=n->a.wt<=1000000000->∃r,lp n a b=some r/\(r=true↔a=b):=by
 intro n
 induction n with
 |zero=>intro t b h;have:=t.kf;omega
 |succ n ih=>
  intro a b h w;cases a with
  |mk k s ts l=>
  cases b with
  |mk k' i us m=>
   rw[Fm.iE] at h w;have F:=Fm.p7 l;have A:=Tm.p7 ts;rw[lp];simp only[Fm.ey,Fm.eD,Fm.ik,Fm.fx,dY,ei (l:=l) VW,ei (l:=ts) VW,dU,eW,fV]
   have no:¬(k=k'/\s=i/\ts=us/\l=m)->∃r,some false=some r/\(r=true↔Fm.mk k s ts l=Fm.mk k' i us m):=by
    intro hn;refine⟨false,rfl,?_⟩;simp only[pA,TJ,Fm.mk.injEq];exact hn
   by_cases d:k≠k'
   .rw[dO d,dO trivial];exact no λh=>d h.1
   .rw[dK d];obtain⟨r,B,v⟩:=yG FU s i (by rw[fl];omega) VW;rw[B];simp only[dI]
    by_cases f:r=true
    .have hs:=v.1 f;rw[dO f]
     by_cases j:(ts.length:Int)≠us.length
     .rw[dO j,dO trivial];exact no λh=>j (by rw[h.2.2.1])
     .rw[dK j]
      by_cases hm:(l.length:Int)≠m.length
      .rw[dO hm];exact no λh=>hm (by rw[h.2.2.2])
      .rw[dK hm];obtain⟨o,C,k2⟩:=MN (E:=λx y=>jq FU x y) (l:=ts) (m:=us) VW (λx c y=>yf FU x y (by have:=eu Tm.wt c;rw[fl];omega) (by have:=eu Tm.wt c;omega));rw[C];rcases k2 with⟨rfl,q⟩|⟨rfl,q⟩
       .simp only[dI,ew];obtain⟨o,q1,D⟩:=MN (E:=λx y=>lp n x y) (l:=l) (m:=m) VW (λx c y=>ih x y (by have:=eu Fm.wt c;omega) (by have:=eu Fm.wt c;omega));rw[q1];rcases D with⟨rfl,u⟩|⟨rfl,u⟩
        .exact⟨true,rfl,by simp only[true_iff,Fm.mk.injEq];exact⟨yU.1 d,hs,q,u⟩⟩
        .exact no λh=>u h.2.2.2
       .exact no λh=>q h.2.2.1
    .rw[dK f,dO trivial];exact no λh=>f (v.2 h.2.1)
def Hr(l:List Ty)(t:Tm):Tm:=l.foldr (λs b=>.mk 2 0 s [b]) t
def ZK{l:List Ty}(q:l.length<=1000):∀(i m:Nat) (t:Tm),i<=l.length->i<m->jL ((XP λ(b:Int) (c:Int) (v59:Int) (d:Int) (f:List Ty) (n:List Tm)=>
   if(qz b 0) then(
   dH (dW l b) λo=>
   some (.next ((fD .i64 b 1),2,0,o.aop,o.aoq,[(Tm.mk c v59 (Ty.mk d f) n)])))
   else(some (.xA (b,c,v59,d,f,n)))):(Int×Int×Int×Int×(List Ty)×(List Tm))->(Option (fp (Int×Int×Int×Int×(List Ty)×(List Tm)) (Tm)))) m ((i:Int)-1,t.aop,t.aos,t.dM.aop,t.dM.aoq,t.aoq)=some (.inl (-1,(Hr (l.take i) t).aop,(Hr (l.take i) t).aos,(Hr (l.take i) t).dM.aop,(Hr (l.take i) t).dM.aoq,(Hr (l.take i) t).aoq))
 |0,m+1,t,_,_=>by
  rw[gM];simp only[XP];rw[dK (by rw[ju];omega)];rfl
 |i+1,m+1,t,hi,hm=>by
  rw[gM];simp only[XP];rw[dO (by rw[ju];omega),show((i+1:Nat):Int)-1=(i:Int) by omega,gS,pE VW];simp only[dI,eQ];rw[fF VW VW]
  have u:Ty.mk (l[i]).aop (l[i]).aoq=l[i]:=by cases l[i];rfl
  have r:Tm.mk t.aop t.aos (Ty.mk t.dM.aop t.dM.aoq) t.aoq=t:=by cases t with|mk k j s a=>cases s;rfl
  have h:=ZK q i m (.mk 2 0 l[i] [t]) VW VW;rw[r];refine h.trans ?_;rw[ahQ,pE VW];simp only[Hr,akE,akp,List.foldr_cons,List.foldr_nil]
def Ai(t:Tm)(l:List Ty)(b:l.length<=1000):wy t l=some (Hr l t):=by
 unfold wy;simp only[dY];rw[fV,fF VW VW];have h:=ZK b l.length FU t (gY _) (afK VW);rw[h,dI,List.take_length];generalize Hr l t=r;cases r with|mk k j s a=>cases s;rfl
def Oe(t a:Tm):yu t [a]=some (.mk 3 0 (.mk 0 []) [t,a]):=by cases t with|mk k j s l=>cases s;rfl
def Oj(t a b:Tm):yu t [a,b]=some (.mk 3 0 (.mk 0 []) [.mk 3 0 (.mk 0 []) [t,a],b]):=by cases t with|mk k j s l=>cases s;rfl
def aeL:Tm:=Hr [.nat] (.mk 6 0 .nat [.mk 4 0 (.mk 0 []) [],Hr [.nat,.nat] (.mk 1 1 (.mk 0 []) []),.mk 1 0 (.mk 0 []) []])
def KW:wx=some aeL:=by
 unfold wx m9 xC l_ Ba;simp only[xy,dI,Ai _ _ (show[Ty.nat,Ty.nat].length<=1000 by decide),Ai _ _ (show[Ty.nat].length<=1000 by decide)];rfl
def ajt:Tm:=Hr [.nat,.nat] (.mk 6 0 .nat [.mk 1 1 (.mk 0 []) [],Hr [.nat,.nat] (.mk 3 0 (.mk 0 []) [aeL,.mk 1 0 (.mk 0 []) []]),.mk 1 0 (.mk 0 []) []])
def NU:yr=some ajt:=by
 unfold yr m9 Bt l_ Ba;simp only[KW,xy,dI,Oe,Ai _ _ (show[Ty.nat,Ty.nat].length<=1000 by decide)];rfl
def afi(a b:Tm):Fm:=.mk 1 (.mk 0 []) [.mk 3 0 (.mk 0 []) [.mk 3 0 (.mk 0 []) [ajt,.mk 5 0 (.mk 0 []) [a]],b],.mk 4 0 (.mk 0 []) []] []
def KO(a b:Tm):wO a b=some (afi a b):=by
 unfold wO xC ri;simp only[NU,dI,Oj];rfl
def Zm:∀x y:Fin 8,∃z:Fin 8,um .u8 (x:Nat) (y:Nat)=(z:Nat)/\((z:Nat)%2=1↔(x:Nat)%2=1/\(y:Nat)%2=1):=aal
def ac4:∀x y:Fin 8,∃z:Fin 8,F8 .u8 (x:Nat) (y:Nat)=(z:Nat)/\((z:Nat)%2=1↔(x:Nat)%2=1\/(y:Nat)%2=1):=aal
def Mk(b:Bool)(m:Int):Prop:=∃x:Fin 8,m=((x:Nat):Int)/\((x:Nat)%2=1↔b=true)
def Mk.and{a b:Bool}{x y:Int}(c:Mk a x)(hy:Mk b y):Mk (a&&b) (um .u8 x y):=by
 obtain⟨x,rfl,d⟩:=c;obtain⟨y,rfl,f⟩:=hy;obtain⟨z,h,i⟩:=Zm x y;exact⟨z,h,by rw[i,d,f,gJ]⟩
def Mk.or{a b:Bool}{x y:Int}(c:Mk a x)(hy:Mk b y):Mk (a||b) (F8 .u8 x y):=by
 obtain⟨x,rfl,d⟩:=c;obtain⟨y,rfl,f⟩:=hy;obtain⟨z,h,i⟩:=ac4 x y;exact⟨z,h,by rw[i,d,f,sx]⟩
def Mk.one:Mk true 1:=⟨1,rfl,aal⟩
def Mk.six:Mk false 6:=⟨6,rfl,aal⟩
def Mk.four:Mk false 4:=⟨4,rfl,aal⟩
def Mk.bit{b:Bool}{m:Int}(h:Mk b m):eR (um .u8 m 1) 0=b:=by
 obtain⟨x,rfl,a⟩:=h
 have key:∀x:Fin 8,eR (um .u8 ((x:Nat):Int) 1) 0=decide ((x:Nat)%2=1):=aal
 rw[key x];cases b with
 |false=>exact KG (λh=>by have:=a.1 h;cases this)
 |true=>exact xG (a.2 rfl)
def Fm.agp{a:Fm}(d:a.ok=true)(c:a.aop=2\/a.aop=3):∃p q,a=.mk a.aop (.mk 0 []) [] [p,q]/\p.ok=true/\q.ok=true:=by
 refine Fm.nw (p:=λa=>a.aop=2\/a.aop=3->∃p q,a=.mk a.aop (.mk 0 []) [] [p,q]/\p.ok=true/\q.ok=true) ?_ ?_ ?_ a d c
 .intro a b _ _ h;rcases h with h|h<;>cases h
 .intro k a b _ f i _ _ _;exact⟨a,b,rfl,f,i⟩
 .intro k s a c _ _ _ h;have h:k=2\/k=3:=h;omega
def Fm.akI{a:Fm}(d:a.ok=true)(f:a.aop=1):∃u v,a=.mk 1 (.mk 0 []) [u,v] []/\u.ok=true/\v.ok=true:=by
 refine Fm.nw (p:=λa=>a.aop=1->∃u v,a=.mk 1 (.mk 0 []) [u,v] []/\u.ok=true/\v.ok=true) ?_ ?_ ?_ a d f
 .intro a b i j _;exact⟨a,b,rfl,i,j⟩
 .intro k a b c _ _ _ _ h;have h:k=1:=h;omega
 .intro k s a c _ _ _ h;have h:k=1:=h;omega
def Tm.ah1{a:Tm}(f:a.ok=true)(i:a.aop=3):∃c d,a=.mk 3 0 .z [c,d]/\c.ok=true/\d.ok=true:=by
 refine Tm.nw (p:=λa=>a.aop=3->∃c d,a=.mk 3 0 .z [c,d]/\c.ok=true/\d.ok=true) ?_ ?_ ?_ ?_ ?_ ?_ ?_ ?_ ?_ ?_ ?_ ?_ ?_ a f i
 case refine_3=>intro a b j k _;exact⟨a,b,rfl,j,k⟩
 all_goals(intros;rename_i h;cases h)
def J1{k:Int}{s:Ty}{a:Fm}(W:(Fm.mk k s [] [a]).ok=true)(hn:(Fm.mk k s [] [a]).aor<=1000000)(N:a.aov 1000000000000=true)(x:a.ok=true):∃b t q ok,uq (.mk k s [] [a])=some (b,t,q,ok)/\(ok=true->q.ok=true/\q.aor<a.aor/\q.aov 1000000000000=true):=by
 rw[Fm.dL] at hn;simp only[ee] at hn;have no:∃b t q ok,(some (false,(Tm.mk 0 0 (Ty.mk 0 []) []),(Fm.mk 0 (Ty.mk 0 []) [] []),false):Option (Bool×Tm×Fm×Bool))=some (b,t,q,ok)/\(ok=true->q.ok=true/\q.aor<a.aor/\q.aov 1000000000000=true):=⟨_,_,_,_,rfl,abm⟩;unfold uq
 obtain⟨y,n,O,X⟩:∃y n,uw (eo (Fm.mk k s [] [a]).aop 4)=some (y,n)/\(n=2\/n=3):=by
  unfold uw
  split
  .exact⟨_,_,rfl,.inr rfl⟩
  .exact⟨_,_,rfl,.inl rfl⟩
 rw[O,dP];simp only[dY]
 by_cases J:eR (Fm.mk k s [] [a]).aop y=true
 .rw[dO J,dO trivial];exact no
 rw[dK J]
 by_cases K:eR (Fm.mk k s [] [a]).dM.aop 1=true
 .rw[dO K,dO trivial];exact no
 rw[dK K];simp only[Fm.ey,eO,jW,dI]
 by_cases c3:eR a.aop n=true
 .rw[dO c3,dO trivial];exact no
 rw[dK c3]
 have A:a.aop=2\/a.aop=3:=by
  have:a.aop=n:=by simpa[eR] using c3
  omega
 obtain⟨p,q,f,L,P⟩:=Fm.agp x A;have B:a.aoq=[p,q]:=(congrArg Fm.aoq f).trans rfl
 have Q:a.aor=1+p.aor+q.aor:=by rw[f,Fm.dL];simp[ee];omega
 have o:p.aov 1000000000000=true/\q.aov 1000000000000=true:=by
  have h:=N;rw[f,Fm.fo] at h;simp only[Xd,CW,Lh,B1,gJ] at h;exact h
 have R:=p.eF;rw[B];simp only[eO,gy,jW,nJ,dI]
 by_cases C:eR p.aop 1=true
 .rw[dO C];exact no
 rw[dK C]
 have D:p.aop=1:=by simpa[eR] using C
 obtain⟨u,v,i,hu,Y⟩:=Fm.akI L D;have F:p.ek=[u,v]:=(congrArg Fm.ek i).trans rfl
 have j:u.aov 1000000000000=true:=by
  have:=o.1;rw[i,Fm.fo] at this;simp only[CW,gJ] at this;exact this.1.1
 have S:p.aor=1+u.aor+v.aor:=by rw[i,Fm.dL];simp[ee];omega
 rw[F];simp only[eO,jW,dI]
 by_cases c5:eR u.aop 3=true
 .rw[dO c5,dO trivial];exact no
 rw[dK c5]
 have G:u.aop=3:=by simpa[eR] using c5
 obtain⟨c,d,l,Z,T⟩:=Tm.ah1 hu G;have H:u.aoq=[c,d]:=(congrArg Tm.aoq l).trans rfl
 have U:u.aor=1+c.aor+d.aor:=by rw[l,Tm.dL];simp[ee];omega
 have I:d.aov 1000000000000=true:=by
  rw[l,Tm.fo] at j;simp only[CW,gJ] at j;exact j.2.2.1
 rw[H];simp only[gy,nJ,jW,dI];rw[Cw 0 ⟨T,I,VW⟩,dI];have yes:∃b t w ok,(some (eo (Fm.mk k s [] [a]).aop 4,d,q,true):Option (Bool×Tm×Fm×Bool))=some (b,t,w,ok)/\(ok=true->w.ok=true/\w.aor<a.aor/\w.aov 1000000000000=true):=⟨_,_,_,_,rfl,λ_=>⟨P,VW,o.2⟩⟩
 by_cases M:pw (d.aox 0:Int) 0=true
 .rw[dO M,dO trivial];exact no
 rw[dK M];have hw:=p.kQ L;obtain⟨r,V,_⟩:=Cg FU p (afi (.mk 1 0 (.mk 0 []) []) d) (by rw[fl];omega) VW;rw[show l_ 0=some (Tm.mk 1 0 (.mk 0 []) [])from rfl,dI,KO,dI,V,dI];cases r with
 |true=>rw[show lF true=false from rfl,dK aal];exact yes|false=>rw[show lF false=true from rfl,dO rfl];exact no
def Rk:∀(n:Nat) (f:Fm),f.aor<=n->f.aor<=1000000->f.ok=true->f.aov 1000000000000=true->∃m,nd n f=some m/\Mk f.has m:=by
 intro n
 induction n with
 |zero=>intro f h;have:=f.eF;omega
 |succ n ih=>
  intro f hn i y c;refine Fm.nw (p:=λf=>f.aor<=n+1->f.aor<=1000000->f.ok=true->f.aov 1000000000000=true->∃m,nd (n+1) f=some m/\Mk f.has m) ?_ ?_ ?_ f y hn i y c
  .intro a b _ _ _ _ _ _;rw[nd,dO abE];exact⟨6,rfl,by rw[Fm.has_eq];exact Mk.six⟩
  .intro k a b A B D _ _ hn i _ c;rw[Fm.dL] at hn i;simp only[ee] at hn i;rw[Fm.fo] at c;simp only[Xd,CW,Lh,B1,gJ] at c;obtain⟨C,F,w⟩:=ih a VW VW B c.1;obtain⟨o,G,x⟩:=ih b VW VW D c.2
   have d:k≠1:=VW
   have H:fq (eo k 2) true (eo k 3)=true:=by rcases A with rfl|rfl<;>rfl
   rw[nd,dK (show¬eo (Fm.mk k (.mk 0 []) [] [a,b]).aop 1=true by simpa[eo] using d)]
   have I:dW [a,b] (fD .i64 (eE [a,b]) 1)=some b:=by rw[fF abm abm];rfl
   simp only[Fm.ey,I,dI,G,dY];rw[dO (show fq (eo (Fm.mk k (.mk 0 []) [] [a,b]).aop 2) true (eo (Fm.mk k (.mk 0 []) [] [a,b]).aop 3)=true from H)];simp only[eO,jW,dI,F,Fm.eD];refine⟨_,rfl,?_⟩;rw[Fm.BE,dK d];have r:=(w.and x).and Mk.six;rw[Bool.and_false] at r;rcases A with rfl|rfl
   .rw[show fq (eo 2 2) (F8 .u8 o C) o=F8 .u8 o C from rfl];have j:=(x.or w).and Mk.one;rw[Lh] at j;have:=r.or j;rw[PN,Bool.or_comm] at this;simpa using this
   .rw[show fq (eo 3 2) (F8 .u8 o C) o=o from rfl];have j:=x.and Mk.one;rw[Lh] at j;have:=r.or j;rw[PN] at this;simpa using this
  .intro k s a A hs B _ hn i y c;have J:=i;rw[Fm.dL] at hn i;simp only[ee] at hn i;rw[Fm.fo] at c;simp only[Xd,CW,Lh,B1] at c;obtain⟨C,F,w⟩:=ih a VW VW B c
   have d:k≠1:=VW
   have H:fq (eo k 2) true (eo k 3)=false:=by rcases A with rfl|rfl|rfl|rfl<;>rfl
   rw[nd,dK (show¬eo (Fm.mk k s [] [a]).aop 1=true by simpa[eo] using d)]
   have I:dW [a] (fD .i64 (eE [a]) 1)=some a:=by rw[fF abm abm];rfl
   simp only[Fm.ey,I,dI,F,dY];rw[dK (show¬fq (eo (Fm.mk k s [] [a]).aop 2) true (eo (Fm.mk k s [] [a]).aop 3)=true by rw[show fq (eo (Fm.mk k s [] [a]).aop 2) true (eo (Fm.mk k s [] [a]).aop 3)=false from H];decide)];obtain⟨b,t,q,ok,O,P⟩:=J1 y J c B;rw[O]
   have fin:∀(v:Int) (N:Mk (Fm.mk k s [] [a]).has v),∃m,(VQ (some (b,t,q,ok)) λQ R K L=>if L then(dH (nd n K) λu=>some (F8 .u8 (um .u8 v 1) (um .u8 u 4)))else(some (um .u8 v 1)))=some m/\Mk (Fm.mk k s [] [a]).has m:=by
    intro v N;show∃m,(if ok then(dH (nd n q) λu=>some (F8 .u8 (um .u8 v 1) (um .u8 u 4)))else(some (um .u8 v 1)))=some m/\Mk (Fm.mk k s [] [a]).has m;have r:=N.and Mk.one;rw[Lh] at r;cases ok with
    |false=>exact⟨_,rfl,r⟩|true=>
     obtain⟨d1,d2,d3⟩:=P rfl;obtain⟨o,G,x⟩:=ih q VW VW d1 d3;rw[dO rfl,G];refine⟨_,rfl,?_⟩;have j:=x.and Mk.four;rw[Bool.and_false] at j;have:=r.or j
     rwa [Bool.or_false] at this
   have l:(Fm.mk k s [] [a]).has=if k=5 then true else a.has:=by
    rw[Fm.ug,dK d]
   by_cases M:k=5
   .subst M;rw[dO abE];refine fin _ ?_;rw[l,dO rfl];have:=w.or Mk.one
    rwa [Bool.or_true] at this
   .rw[dK (show¬eo (Fm.mk k s [] [a]).aop 5=true by simpa[eo] using M)];refine fin _ ?_;rw[l,dK M];exact w
def E_{f:Fm}(hw:f.wt<=1000000000)(b:f.aov 1000000000000=true):rF f=some (if f.err≠0 then(false,f.err)else(f.has,0)):=by
 unfold rF Bp;rw[oh hw,dI]
 by_cases he:f.err=0
 .obtain⟨a,hn⟩:=Fm.iK he;obtain⟨m,c,d⟩:=Rk FU f (by have:=fl;omega) VW a b;rw[dK (by rw[eW];simpa using he),c,dI,d.bit,dP,dK (by simpa using he)]
 .rw[dO (by rw[eW];exact he),dP,dO he]
def mW{α:Type}(m:List (Int×α)):List Int:=m.map (·.1)
def E0{α:Type}(k:Int)(v:α):∀(m:List (Int×α)) (x:Int),x∈mW (wE m k v)↔x=k\/x∈mW m
 |[],x=>by simp[wE,mW]|p::m,x=>by
  unfold wE
  by_cases h:p.1=k
  .rw[dO h];subst h;simp[mW]
  .rw[dK h];have ih:=E0 k v m x;simp only[mW,pP,kX] at ih|-;rw[ih];constructor
   .rintro(h|h|h)
    .exact .inr (.inl h)
    .exact .inl h
    .exact .inr (.inr h)
   .rintro(h|h|h)
    .exact .inr (.inl h)
    .exact .inl h
    .exact .inr (.inr h)
def Dd{α:Type}(k:Int)(v:α):∀(m:List (Int×α)),(mW m).Nodup->(mW (wE m k v)).Nodup
 |[],_=>by simp[wE,mW]|p::m,h=>by
  have b:p.1∉mW m/\(mW m).Nodup:=ZJ.1 h;unfold wE
  by_cases a:p.1=k
  .rw[dO a];subst a;exact h
  .rw[dK a];refine ZJ.2 ⟨λhm=>?_,Dd k v m b.2⟩;rcases(E0 k v m p.1).1 hm with e|e
   .exact a e
   .exact b.1 e
def Jw{α:Type}(k:Int)(v:α):∀(m:List (Int×α)),(wE m k v).length<=m.length+1
 |[]=>by simp[wE]|p::m=>by
  unfold wE
  split
  .simp
  .have:=Jw k v m;simp only[kY];omega
def Ru(n:Int):∀l:List Int,(Da n l).length=l.length+1
 |[]=>rfl|a::l=>by
  unfold Da
  split
  .rfl
  .simp[Ru n l]
def MZ:∀(l acc:List Int),(zN acc l).length=acc.length+l.length
 |[],acc=>by simp[zN]|a::l,acc=>by rw[zN,MZ l,Ru];simp only[kY];omega
def Lc:∀(n:Nat) (t:Tm) (d:Int) (m:List (Int×Bool)),t.aor<=n->t.aor<=100000000->0<=d->d+t.aor<=1000000000->t.aov 4611686018427387904=true->(mW m).Nodup->∃y,p4 n t d m=some y/\(mW y).Nodup/\y.length<=m.length+t.aor/\∀x,x∈mW y↔x∈mW m\/(0<=x/\0<t.aox (x+d)):=by
 intro n
 induction n with
 |zero=>intro t d m h;have:=t.eF;omega
 |succ n ih=>
  intro t d m hn B O P I hm;cases t with
  |mk k i s l=>
   have J:=hV k;rw[Tm.dL] at hn B P;have hlen:=je Tm.aor l λt _=>t.eF;rw[Tm.fo,gJ,oU,kZ] at I
   have aoq:∀(F:Int->Tm->List (Int×Bool)->Option (fp (List (Int×Bool)) (List (Int×Bool)))),(∀j x v,F j x v=dH (lK (Tm.mk k i s l)) λb=>dH (p4 n x (eH .i64 d b) v) λr=>some (.next r))->∀(as:List Tm) (j:Nat) (v:List (Int×Bool)),(∀a∈as,a∈l)->(mW v).Nodup->∃f,fa F as j v=some (.inl f)/\(mW f).Nodup/\f.length<=v.length+ee Tm.aor as/\∀x,x∈mW f↔x∈mW v\/(0<=x/\0<ee (Tm.aox (x+d+eT k)) as):=by
    intro F hF as
    induction as with
    |nil=>intro j v _ C;exact⟨v,rfl,C,by simp[ee],λx=>by simp[ee]⟩|cons a as D=>
     intro j v has C;have K:=has a abm;have Q:=eu Tm.aor K;have G:=I.2 a K;obtain⟨v1,o,q,L,u⟩:=ih a (d+eT k) v VW VW VW VW G C;obtain⟨v2,g1,g2,g3,g4⟩:=D (j+1) v1 (λb B=>has b (by simp[B])) q;refine⟨v2,?_,g2,by simp only[ee];omega,λx=>?_⟩
     .rw[eV,hF,oi];simp only[dI,Tm.eD];rw[e9 VW VW,o];simp only[dI,eQ];exact g1
     .rw[g4,u];simp only[ee];rw[<-Int.add_assoc];constructor
      .rintro((h|h)|h)
       .exact .inl h
       .exact .inr ⟨h.1,VW⟩
       .exact .inr ⟨h.1,VW⟩
      .rintro(h|⟨h,A⟩)
       .exact .inl (.inl h)
       .by_cases R:0<a.aox (x+d+eT k)
        .exact .inl (.inr ⟨h,R⟩)
        .exact .inr ⟨h,VW⟩
   unfold p4;simp only[dY,Tm.ey,ei (l:=l) VW,dU,Tm.eD,Tm.gn];rw[Tm.dL]
   by_cases w:k=1/\d<=i
   .have c:fq (eo k 1) (qz i d) false=true:=by simp[fq,w.1,w.2]
    simp only[c,if_true];rw[fF VW VW];obtain⟨f,o,q,L,u⟩:=aoq _ (λ_ _ _=>rfl) l 0 (wE m (i-d) true) (λa h=>h) (Dd _ _ _ hm);refine⟨f,by rw[o];rfl,q,by have:=Jw (i-d) true m;omega,λx=>?_⟩;rw[u,E0,Tm.fu];constructor
    .rintro((h|h)|h)
     .exact .inr ⟨VW,by rw[dO ⟨w.1,VW⟩];omega⟩
     .exact .inl h
     .exact .inr ⟨h.1,VW⟩
    .rintro(h|⟨h,A⟩)
     .exact .inl (.inr h)
     .by_cases M:x=i-d
      .exact .inl (.inl M)
      .rw[dK (λN=>M VW)] at A;exact .inr ⟨h,VW⟩
   .have c:fq (eo k 1) (qz i d) false=false:=by
     unfold fq
     split
     .rename_i S
      have H:k=1:=by simpa using S
      simp only[qz,aj']
      exactλh=>w ⟨H,h⟩
     .rfl
    simp only[c,pA,jt];obtain⟨f,o,q,L,u⟩:=aoq _ (λ_ _ _=>rfl) l 0 m (λa h=>h) hm;refine⟨f,by rw[o];rfl,q,VW,λx=>?_⟩;rw[u,Tm.fu];constructor
    .rintro(h|h)
     .exact .inl h
     .exact .inr ⟨h.1,VW⟩
    .rintro(h|⟨h,A⟩)
     .exact .inl h
     .rw[dK (λN=>w ⟨N.1,VW⟩)] at A;exact .inr ⟨h,VW⟩
def Mg{t:Tm}(hw:t.wt<=1000000000)(d:t.aov 4611686018427387904=true)(he:t.err=0):∃l,wR t=some (l,0)/\HH l/\l.length<=4096/\∀x,x∈l↔0<=x/\0<t.aox x:=by
 have hn:t.aor<=4096:=by
  unfold Tm.err at he
  split at he
  .split at he
   .cases he
   .omega
  .cases he
 obtain⟨m,f,c,h,i⟩:=Lc FU t 0 [] (by rw[fl];omega) VW VW VW d (by simp[mW])
 have a:(m.map (·.1)).Nodup:=c
 have b:m.length<=4096:=by simpa using z8 h (by simpa using hn)
 refine⟨zN [] (mW m),?_,Bq _ [] .nil c abm,?_,λx=>?_⟩
 .unfold wR;rw[jQ hw,he];simp only[dI];rw[dK aal,f];simp only[dI];unfold qG
  rw[ei VW,dU,show x_ (m.map (·.1))=true from by simp[x_,a],dU]
  rfl
 .rw[MZ];simp[mW,b]
 .rw[Bu,i];simp[mW]
def UM{n:Int}(a:0<=n)(b:n<4294967296):IntKind.u32.wrap n=n:=by
 unfold IntKind.wrap;simp only[show IntKind.u32.bits=32 from rfl,show IntKind.u32.signed=false from rfl,ait,pA,jt,show((2:Int)^32)=4294967296 from rfl];omega
def aaE(a:Nat):BitVec.ofInt 32 (a:Int)=BitVec.ofNat 32 a:=abm
def NY{a b:Nat}(d:a<4294967296)(f:b<4294967296):F8 .u32 (a:Int) (b:Int)=((a|||b:Nat):Int):=by
 unfold F8;have c:a|||b<2^32:=aih VW VW;rw[show IntKind.u32.bits=32 from rfl,aaE,aaE,BitVec.toNat_or,ak4,ak4,afX VW,afX VW];exact UM VW VW
def Zr{k:Nat}(b:k<32):Z1 .u32 1 (k:Int)=((2^k:Nat):Int):=by
 unfold Z1;rw[show IntKind.u32.bits=32 from rfl,BS,YJ VW,Int.one_mul];have a:2^k<2^32:=akr aal b;rw[show((2:Int)^k)=((2^k:Nat):Int) by push_cast;rfl];exact UM (ajV _) (Int.ofNat_lt.2 (ajY a rfl))
structure Us (l:List Int) (m:Nat):Prop where
 lt:m<4294967296
 pos:∀x∈l,0<=x
 srt:HH l
 mem:∀i:Nat,(i:Int)∈l↔m.testBit i=true
def Us.nil:Us [] 0:=⟨aal,abm,by first|exact .nil|trivial|simp[HH],abm⟩
def FT{i b:Int}{m:Nat}(hm:m<4294967296)(o:0<=i)(q:i<=1000000000000)(r:0<=b)(s:b<=1000000000)(t:i-b<32):∃c:Nat,n5 i b (m:Int)=some (c:Int)/\c<4294967296/\∀j:Nat,c.testBit j=true↔m.testBit j=true\/i=j+b:=by
 unfold n5
 by_cases h:b<=i
 .rw[dO (by rw[ju];exact h),fF VW VW,show Ox (i-b)=true by simp[Ox];omega,dU];obtain⟨k,l⟩:∃k:Nat,i-b=(k:Int):=⟨(i-b).toNat,VW⟩
  have a:k<32:=VW
  have d:2^k<4294967296:=ajY (akr aal a) rfl;rw[l,Zr a,NY hm d];refine⟨m|||2^k,rfl,aih (n:=32) VW VW,λj=>?_⟩;rw[aic,sx,akF,TM];constructor
  .rintro(h|h)
   .exact .inl h
   .exact .inr VW
  .rintro(h|h)
   .exact .inl h
   .exact .inr VW
 .rw[dK (by rw[ju];exact h)];exact⟨m,rfl,hm,λj=>⟨.inl,λf=>f.elim id λf=>absurd f VW⟩⟩
def J5:∀(n:Nat) (t:Tm) (b:Int) (m:Nat),t.aor<=n->t.aor<=1000000->t.ok=true->t.aov 1000000000000=true->0<=b->b+t.aor<=1000000000->m<4294967296->(∀j:Int,32<=j->t.aox (j+b)=0)->∃r:Nat,jN n t b (λ(s:Int) (w:Int) (x:Int)=>n5 w x s) (m:Int)=some (r:Int)/\r<4294967296/\∀j:Nat,r.testBit j=true↔m.testBit j=true\/0<t.aox (j+b):=by
 intro n
 induction n with
 |zero=>intro t b m h;have:=t.eF;omega
 |succ n ih=>
  intro t b m hn Q R y S A hm c;cases t with
  |mk k i s l=>
   rw[Tm.dL] at hn Q A;have hlen:=Tm.fA l;have hi:=Tm.lM R;rw[Tm.fo,gJ,TM,kZ] at y;have T:=hV k;rw[jN];simp only[dY]
   have B:∀j:Int,32<=j->∀t∈l,t.aox (j+(b+eT k))=0:=by
    intro j C t U;have D:=c j C;rw[Tm.fu] at D;have Z:=eu (Tm.aox (j+b+eT k)) U;rw[show j+(b+eT k)=j+b+eT k by omega];omega
   have loop:∀(ts:List Tm) (j:Nat) (v:Nat),(∀t∈ts,t∈l)->v<4294967296->∃F:Nat,fa (λ(V:Int) (G:Tm)=>(λ(v28:Int)=>
      dH (jN n G (b+eT k) (λ(s:Int) (w:Int) (x:Int)=>n5 w x s) v28) λH=>
      some ((.next H):fp Int Int))) ts j (v:Int)=some (.inl (F:Int))/\F<4294967296/\∀q:Nat,F.testBit q=true↔v.testBit q=true\/0<ee (Tm.aox (q+b+eT k)) ts:=by
    intro ts
    induction ts with
    |nil=>intro j v _ I;exact⟨v,abm,I,λq=>by simp[ee]⟩|cons t ts J=>
     intro j v d I;have a:=d t abm;have W:=eu Tm.aor a;obtain⟨v1,K,L,M⟩:=ih t (b+eT k) v VW VW (hi.2.2.2.1 t a) (y.2 t a) VW VW I (λj C=>B j C t a);obtain⟨v2,f1,f2,f3⟩:=J (j+1) v1 (λu hu=>d u (by simp[hu])) L;refine⟨v2,?_,f2,λq=>?_⟩
     .rw[eV,K];simp only[dI,eQ];exact f1
     .rw[f3,M];simp only[ee];rw[show(q:Int)+(b+eT k)=q+b+eT k by omega];constructor
      .rintro((h|h)|h)
       .exact .inl h
       .exact .inr VW
       .exact .inr VW
      .rintro(h|h)
       .exact .inl (.inl h)
       .by_cases X:0<t.aox (q+b+eT k)
        .exact .inl (.inr X)
        .exact .inr VW
   by_cases N:k=1
   .subst N;rw[dO (show eo (Tm.mk 1 i s l).aop 1=true from rfl)];simp only[Tm.ey,Tm.eD,Tm.gn]
    have O:i-b<32:=by
     rcases Int.lt_or_le (i-b) 32 with h|h
     .exact h
     .have D:=c (i-b) h;rw[Tm.fu,dO ⟨rfl,VW⟩] at D;omega
    obtain⟨Y,K,L,M⟩:=FT hm hi.2.1 y.1 S VW O;rw[K,dI,yj 1 b VW VW,ei VW,dU];obtain⟨P,f1,f2,f3⟩:=loop l 0 Y (λt h=>h) L;refine⟨P,?_,f2,λq=>?_⟩
    .have f:=f1;rw[show((0:Nat))=0 from rfl] at f;rw[f,dI];rfl
    .rw[f3,M,Tm.fu]
     by_cases o:i=q+b
     .rw[dO ⟨rfl,o⟩];exact⟨λ_=>.inr VW,λ_=>.inl (.inr o)⟩
     .rw[dK (λh=>o h.2),vo];exact⟨λh=>h.elim (λh=>h.elim .inl λh=>absurd h o) .inr,λh=>h.elim (λh=>.inl (.inl h)) .inr⟩
   .rw[dK (show¬eo (Tm.mk k i s l).aop 1=true by simpa[eo] using N)];simp only[Tm.ey,Tm.eD,Tm.gn];rw[yj k b VW VW,ei VW,dU];obtain⟨P,f1,f2,f3⟩:=loop l 0 m (λt h=>h) hm;refine⟨P,by rw[f1,dI];rfl,f2,λq=>?_⟩;rw[f3,Tm.fu,dK (λh=>N h.1),vo]
def aek{t:Tm}(he:t.err=0)(b:t.aov 1000000000000=true)(c:∀j:Int,32<=j->t.aox j=0):∃(l:List Int),mS t=some l/\HH l/\∀x,x∈l↔0<=x/\0<t.aox x:=by
 obtain⟨a,hn⟩:=Tm.iK he;have hw:=t.kQ a;obtain⟨l,g1,g2,_,g4⟩:=Mg (t:=t) VW (Tm.o6 t VW b) he;exact⟨l,by unfold mS;rw[g1];rfl,g2,g4⟩
def tw(v:List (Int×Bool))(l:List Int):List (Int×Bool):=l.foldl (λv x=>wE v x true) v
def zd:∀(l:List Int) (v:List (Int×Bool)),(mW v).Nodup->(mW (tw v l)).Nodup/\(tw v l).length<=v.length+l.length/\∀x,x∈mW (tw v l)↔x∈mW v\/x∈l
 |[],v,h=>⟨h,by simp[tw],λx=>by simp[tw]⟩|y::l,v,h=>by
  obtain⟨a,c,b⟩:=zd l (wE v y true) (Dd y true v h);refine⟨a,?_,λx=>?_⟩
  .have:=Jw y true v;show(tw (wE v y true) l).length<=_;rw[kY];omega
  .show x∈mW (tw (wE v y true) l)↔_;rw[b,E0,kX];constructor
   .rintro((h|h)|h)
    .exact .inr (.inl h)
    .exact .inl h
    .exact .inr (.inr h)
   .rintro(h|h|h)
    .exact .inl (.inr h)
    .exact .inl (.inl h)
    .exact .inr h
def Kj{ρ:Type}:∀(l:List Int) (j:Nat) (v:List (Int×Bool)),fa (λ(c:Int) (a:Int)=>(λ(b:(List (Int×Bool)))=>some ((.next (wE b a true)):fp (List (Int×Bool)) ρ))) l j v=some (.inl (tw v l))
 |[],j,v=>by rw[oz];rfl|x::l,j,v=>by
  rw[eV];simp only[dI,eQ];exact Kj l (j+1) (wE v x true)
def I5{a b:List Int}(h:a.length<=1000000)(i:b.length<=1000000):∃l,iD a b=some l/\HH l/\∀x,x∈l↔x∈a\/x∈b:=by
 obtain⟨c,d,f⟩:=zd a [] (by simp[mW]);obtain⟨g1,g2,g3⟩:=zd b (tw [] a) c;refine⟨zN [] (mW (tw (tw [] a) b)),?_,Bq _ _ .nil g1 abm,λx=>?_⟩
 .unfold iD;simp only[dY];rw[ei VW,dU];rw[Kj a 0 [],dI,ew,ei VW,dU,Kj b 0 _,dI,ew];unfold qG;simp only[wZ] at d;rw[ei VW,dU,show x_ (List.map (λx=>x.1) (tw (tw [] a) b))=true from xG g1,dU];rfl
 .rw[Bu,g3,f];simp[mW]
def Us.union{a b:List Int}{m n:Nat}(c:Us a m)(d:Us b n)(f:a.length<=1000000)(j:b.length<=1000000):∃l,iD a b=some l/\F8 .u32 (m:Int) (n:Int)=((m|||n:Nat):Int)/\Us l (m|||n)/\∀x,x∈l↔x∈a\/x∈b:=by
 obtain⟨l,o,q,k⟩:=I5 f j;refine⟨l,o,NY c.lt d.lt,⟨aih (n:=32) (by have:=c.lt;omega) (by have:=d.lt;omega),λx r=>?_,q,λi=>?_⟩,k⟩
 .rcases(k x).1 r with h|h
  .exact c.pos x h
  .exact d.pos x h
 .rw[k,c.mem,d.mem,aic,sx]
def Us.bound{l:List Int}{m:Nat}(h:Us l m):∀x∈l,x<32:=by
 intro x a;have b:=h.pos x a;obtain⟨k,rfl⟩:=ah' b;have:=(h.mem k).1 a;rcases uC k 32 with h1|h1
 .omega
 .exfalso;have c:m<2^k:=WQ h.lt (z8 (by decide:4294967296<=2^32) (Nat.pow_le_pow_right aal h1));rw[Nat.testBit_lt_two_pow c] at this;cases this
def Bi(k:Int)(l:List Int):List Int:=(l.filter λx=>decide (k<=x)).map λx=>x-k
def IY{k:Int}(f:0<=k)(c:k<=1000):∀(l:List Int) (j:Nat) (v:List Int),(∀x∈l,0<=x/\x<32)->v.length+l.length<=1000000->fa (λ(i:Int) (a:Int)=>(λ(b:List Int)=>
   if(qz a k) then(
   gq (fM b [(fD .i64 a k)])<|some ((.next (fW b [(fD .i64 a k)])):fp (List Int) (List Int)))
   else(some (.next b)))) l j v=some (.inl (v++Bi k l))
 |[],j,v,_,_=>by simp[Bi]|x::l,j,v,h,n=>by
  simp only[kY] at n;have o:=h x abm;rw[eV]
  by_cases d:k<=x
  .rw[dO (by rw[ju];exact d),fk abv,dU,fF VW VW];simp only[dI,eQ];rw[ig,IY f c l (j+1) _ (λy hy=>h y (by simp[hy])) abv];simp[Bi,d]
  .rw[dK (by rw[ju];exact d)];simp only[dI,eQ];rw[IY f c l (j+1) v (λy hy=>h y (by simp[hy])) VW];simp[Bi,d]
def F1{l:List Int}{m:Nat}(h:Us l m)(d:l.length<=1000000){k:Int}(c:0<=k)(a:k<=1000):iV l k=some (Bi k l):=by
 unfold iV;simp only[dY];rw[ei VW,dU,IY c a l 0 [] (λx b=>⟨h.pos x b,h.bound x b⟩) abv,dI,ew,n9]
def IN(k:Int)(l:List Int)(x:Int):x∈Bi k l↔x+k∈l/\0<=x:=by
 unfold Bi;simp only[ql,adX,TM];constructor
 .rintro⟨y,⟨a,b⟩,rfl⟩;exact⟨by rw[Int.sub_add_cancel];exact a,VW⟩
 .rintro⟨a,b⟩;exact⟨x+k,⟨a,VW⟩,VW⟩
def R0(k:Int):∀{l:List Int},HH l->HH (Bi k l)
 |[],_=>.nil|a::l,.cons d f=>by
  have ih:=R0 k f
  by_cases c:k<=a
  .have e:Bi k (a::l)=(a-k)::Bi k l:=by simp[Bi,c]
   rw[e];refine .cons (λb h=>?_) ih;have:=d _ ((IN k l b).1 h).1;omega
  .have e:Bi k (a::l)=Bi k l:=by simp[Bi,c]
   rw[e];exact ih
def Us.out{l:List Int}{m:Nat}(h:Us l m)(a:l.length<=1000000){k:Nat}(c:k<=32):iV l (k:Int)=some (Bi k l)/\Us (Bi k l) (m/2^k):=by
 refine⟨F1 h a VW VW,⟨Nat.lt_of_le_of_lt (Nat.div_le_self _ _) h.lt,λx b=>((IN _ _ _).1 b).2,R0 _ h.srt,λi=>?_⟩⟩
 .rw[IN,show(i:Int)+(k:Int)=((i+k:Nat):Int) by omega,h.mem]
  have e:(m/2^k).testBit i=m.testBit (i+k):=by rw[Nat.testBit_div_two_pow]
  rw[e];exact⟨λh=>h.1,λh=>⟨h,VW⟩⟩
def Fm.ZF(t:Fm):∀f,t.up f 0=t:=by
 induction t using Fm.ind with
 |h k s ts l ih=>
  intro f;rw[Fm.fE]
  congr 1
  .rw[th (g:=id) λx _=>Tm.Ee x _];simp
  .rw[th (g:=id) λx a=>ih x a _];simp
def Fm.Ee(t:Fm):t.up 0 0=t:=Fm.ZF t 0
structure PlR (c:dT):Prop where
 ctx:jf c.aot
 nv:c.aot.length<=16
 nh:c.aow.length<=16
def PlR.with{c:dT}(h:PlR c){f:Fm}(hn:c.aow.length+1<=16):∃a,ia c f=some a/\PlR a/\a.lemmas=c.lemmas/\a.aot=c.aot/\a.aow=c.aow++[f]:=by
 unfold ia;rw[fk abv,dU];refine⟨_,rfl,⟨h.ctx,h.nv,?_⟩,rfl,rfl,by simp only[ig]⟩;show(fW c.aow [f]).length<=16;rw[ig];simpa using hn
def jf.append{g l:List Ty}(h:jf g)(a:jf l):jf (g++l):=λs hs=>(tl.1 hs).elim (h s) (a s)
def PlR.below{c:dT}(h:PlR c){l:List Ty}(b:jf l)(hn:c.aot.length+l.length<=16)(d:∀f∈c.aow,f.err=0/\f.aov 1000000000=true):∃a,gu c l=some a/\PlR a/\a.lemmas=c.lemmas/\a.aot=c.aot++l/\a.aow=c.aow.map (Fm.up 0 l.length):=by
 have i:=h.nh
 have k:gu c l=some (dT.mk c.lemmas (c.aot++l) (c.aow.map (Fm.up 0 l.length))):=by
  unfold gu;simp only[dY]
  rw[fk VW,dU,ei VW,dU,kh (Fm.up 0 l.length) c.aow 0 [] abv (λj x v n o=>by
   obtain⟨q1,q⟩:=d x n;obtain⟨r,s⟩:=Fm.iK q1
   rw[fV,Gv FU x 0 l.length (by rw[fl];omega) VW VW VW VW VW (Fm.o6 x VW q),dI,fk (by simpa using o),dU,ig])]
  rw[dI,ew,ig,n9]
 refine⟨_,k,⟨h.ctx.append b,?_,?_⟩,rfl,rfl,rfl⟩
 .show(c.aot++l).length<=16;simpa using hn
 .show(c.aow.map (Fm.up 0 l.length)).length<=16;simpa using h.nh
def acF{t:Tm}(q:t.ok=true):wm t=some t.root:=by
 unfold wm;simp only[dY];cases t with
 |mk k i s l=>
  show(if(eo k 3) then(dH (dW l 0) λj=>some (eo j.aop 2))else(
   if(eo k 6) then(dH (dW l 2) λf=>if(eo f.aop 4) then some true else some (eo f.aop 5))else(
   if(eo k 9) then(dH (dW l 2) λh=>if(eo h.aop 7) then some true else some (eo h.aop 8))else(
   if(fq (eo k 11) true (eo k 12)) then(dH (dW l 0) λn=>some (eo n.aop 10))else some false))))=_
  unfold Tm.root
  by_cases r:k=3
  .subst r;obtain⟨a,b,rfl⟩:=Tm.ok3 q;rw[dO aal];simp[eO,Tm.kd,vd]
  .rw[dK (by simpa using r)]
   by_cases u:k=6
   .subst u;obtain⟨a,b,c,rfl⟩:=Tm.ok6 q;rw[dO aal];simp only[jk,nJ,jW,dI,Tm.kd,gi]
    by_cases o:c.aop=4
    .simp[o]
    .simp[o,vd]<;>exact TX.2 Iff.rfl
   .rw[dK (by simpa using u)]
    by_cases v:k=9
    .subst v;obtain⟨a,b,c,rfl⟩:=Tm.ok9 q;rw[dO aal];simp only[jk,nJ,jW,dI,Tm.kd,gi]
     by_cases o:c.aop=7
     .simp[o]
     .simp[o,vd]<;>exact TX.2 Iff.rfl
    .rw[dK (by simpa using v)]
     by_cases d:k=11\/k=12
     .obtain⟨a,rfl⟩:=Tm.agG d q;rw[dO (by rcases d with rfl|rfl<;>rfl)];simp only[eO,jW,dI,Tm.kd];rcases d with rfl|rfl<;>simp[vd]<;>exact TX.2 Iff.rfl
     .rw[dK (by simp only[lW,sx,gi];exact d)];simp only[not_or] at d;simp[r,u,v,d.1,d.2]
def Ih{t:Tm}(h:t.aor<=1000000000):gj FU t=some (t.aor:Int):=oq FU t (by rw[fl];exact h) h
def W9{t:Tm}(r:t.ok=true)(hn:t.aor<=8192)(f:t.root=true):sX t=some ((t.fh.aor:Int)-(t.aor:Int)):=by
 have l:=Tm.GF r f;have u:=hn;unfold sX;rw[Ih VW];simp only[dI];cases l with
 |app=>
  rename_i i s c d b a;have o:=Tm.ez (Tm.ez r (.mk 2 c d [b]) abm) b abm;rw[Tm.dL] at hn;simp only[ee,Tm.dL] at hn;rw[dO abE];simp only[Tm.ey,eO,gy,jW,nJ,dI];rw[Ih (t:=b) VW,Ih (t:=a) VW,Ah FU b 0 (by rw[fl];omega) VW VW VW];simp only[dI];have v:=Tm.iZ b 0;have hmul:b.aox 0*a.aor<=8192*8192:=Oa VW VW;have w:=Tm.r6 a b 0 o;have x:=a.eF
  have e:(Tm.mk 3 i s [.mk 2 c d [b],a]).fh=Tm.gP 0 b a:=by simp[Tm.fh]
  rw[e]
  have hint:(b.aox 0:Int)*((a.aor:Int)-1)=((b.aox 0*a.aor:Nat):Int)-(b.aox 0:Int):=by rw[aei,acM];simp
  rw[fF (a:=(a.aor:Int)) VW VW,Bs (by rw[hint];omega) (by rw[hint];omega),hint,e9 VW VW,fF VW VW]
  congr 1
  omega
 |proj q=>
  rename_i k i s c d a b;rw[Tm.dL] at hn;simp only[ee,Tm.dL] at hn;rcases q with rfl|rfl
  .rw[dK abm,dK abm,dK abm,dO abE];simp only[Tm.ey,eO,gy,jW,nJ,dI];rw[Ih (t:=a) VW];simp only[dI];rw[fF VW VW];simp[Tm.fh]
  .rw[dK abm,dK abm,dK abm,dK abm];simp only[Tm.ey,eO,gy,jW,nJ,dI];rw[Ih (t:=b) VW];simp only[dI];rw[fF VW VW];simp[Tm.fh]
 |zero q=>
  rename_i k y i s c d b st;rw[Tm.dL] at hn;simp only[ee,Tm.dL] at hn
  have j:k≠3/\k≠11/\k≠12:=VW
  have:(Tm.mk k i s [b,st,.mk y c d []]).fh=b:=by simp[Tm.fh,j.1,j.2.1,j.2.2]
  rw[this];rcases q with⟨rfl,rfl⟩|⟨rfl,rfl⟩
  .rw[dK abm,dO abE];simp only[Tm.ey,eO,gy,jk,jW,nJ,dI];rw[dO abE,Ih (t:=b) VW];simp only[dI];rw[fF VW VW]
  .rw[dK abm,dK abm,dO abE];simp only[Tm.ey,eO,gy,jk,jW,nJ,dI];rw[dO abE,Ih (t:=b) VW];simp only[dI];rw[fF VW VW]
 |succ=>
  rename_i i s c d b st n
  have e:(Tm.mk 6 i s [b,st,.mk 5 c d [n]]).fh=kC st [n,.mk 6 i s [b,st,n]]:=by simp[Tm.fh,kC]
  rw[e,pc];rw[Tm.dL] at hn|-;simp only[ee,Tm.dL,kY,wZ] at hn|-;rw[dK abm,dO abE];simp only[Tm.ey,eO,gy,jk,jW,nJ,dI];rw[dK abm,Ih (t:=st) VW,Ih (t:=n) VW];simp only[dI];rw[e9 (a:=2) VW VW,e9 (b:=(n.aor:Int)) VW VW,e9 VW VW,fF (b:=1) VW VW,fF VW VW]
  congr 1
  omega
 |cons=>
  rename_i i s c d b st h n
  have e:(Tm.mk 9 i s [b,st,.mk 8 c d [h,n]]).fh=kC st [h,n,.mk 9 i s [b,st,n]]:=by simp[Tm.fh,kC]
  rw[e,pc];rw[Tm.dL] at hn|-;simp only[ee,Tm.dL,kY,wZ] at hn|-;rw[dK abm,dK abm,dO abE];simp only[Tm.ey,eO,gy,jk,jW,nJ,dI];rw[dK abm,Ih (t:=st) VW,Ih (t:=h) VW,Ih (t:=n) VW];simp only[dI];rw[e9 (a:=3) VW VW,e9 (b:=(h.aor:Int)) VW VW,e9 (b:=(n.aor:Int)) VW VW,e9 VW VW,fF (b:=1) VW VW,fF (b:=(h.aor:Int)) VW VW,fF VW VW]
  congr 1
  omega
def TP{M:Int}(u:0<=M/\M<=1000000000000){t:Tm}(hs:Sm M t)(hn:t.aor<=8192)(c:t.root=true):rH t=some t.fh:=by
 have o:=hs.ok;have q:=Tm.GF o c;have hw:=Tm.kQ t o;unfold rH;cases q with
 |app=>
  rename_i i s f j b a;have d:=(hs.arg (.mk 2 f j [b]) abm).arg b abm;have l:=hs.arg a abm;have v:=d.aor;have w:=l.aor;rw[dO abE];simp only[Tm.ey,eO,gy,jW,nJ,dI];rw[GV FU b 0 0 a (by rw[fl];omega) VW VW VW VW (d.mono u.2).aov d.ok VW (l.mono u.2).aov];simp[Tm.fh]
 |proj r=>
  rename_i k i s f j a b;rcases r with rfl|rfl
  .rw[dK abm,dK abm,dK abm,dO abE];simp[Tm.fh,eO]
  .rw[dK abm,dK abm,dK abm,dK abm];simp[Tm.fh,eO,gy]
 |zero r=>
  rename_i k x i s f j b st;rcases r with⟨rfl,rfl⟩|⟨rfl,rfl⟩
  .rw[dK abm,dO abE];simp[Tm.fh,eO,jk,eo]
  .rw[dK abm,dK abm,dO abE];simp[Tm.fh,eO,jk,eo]
 |succ=>
  rename_i i s f j b st n;have hi:i=0:=(Tm.lM o).2.2.1 aal;subst hi;rw[Tm.iE] at hw;simp only[ee,Tm.iE] at hw;rw[dK abm,dO abE];simp only[Tm.ey,eO,gy,jk,jW,nJ,dI,Tm.fx];rw[dK abm,zL VW VW];simp only[dI];rw[DY VW VW VW VW];simp only[dI];rw[qc _ _ (by simp only[ee,Tm.iE,Ty.z,Ty.dL];omega)];simp[Tm.fh,kC,Ty.z]
 |cons=>
  rename_i i s f j b st h n;have hi:i=0:=(Tm.lM o).2.2.1 aal;subst hi;rw[Tm.iE] at hw;simp only[ee,Tm.iE] at hw;rw[dK abm,dK abm,dO abE];simp only[Tm.ey,eO,gy,jk,jW,nJ,dI,Tm.fx];rw[dK abm,zL VW VW];simp only[dI];rw[qc _ _ (by simp only[ee,Tm.iE,Ty.z,Ty.dL];omega)];simp only[dI];rw[DY VW VW VW VW];simp only[dI];rw[qc _ _ (by simp only[ee,Tm.iE,Ty.z,Ty.dL];omega)];simp[Tm.fh,kC,Ty.z]
def ahv(t:Tm)(o:Option (Option Tm))(r:Tm×Bool×Bool):Prop:=
 match o with
 |none=>r.2.1=true/\r.2.2=false|some none=>r=(t,false,true)|some (some a)=>r=(a,true,true)
def VD{M:Int}(H:0<=M/\M<=1000000000000)(room:Int):∀(n:Nat) (t:Tm),t.aor<=n->Sm M t->t.aor<=8192->∃r,pt n t room=some r/\ahv t (t.Ka room) r
 |0,t,hn,_,_=>by have:=t.eF;omega
 |n+1,.mk k i s l,hn,hs,G=>by
  rw[pt,acF hs.ok];simp only[dI];rw[Tm.Dq]
  by_cases x:(Tm.mk k i s l).root=true
  .rw[dO x,dO x,W9 hs.ok G x];simp only[dI,hJ]
   by_cases hg:((Tm.mk k i s l).fh.aor:Int)-((Tm.mk k i s l).aor:Int)>room
   .rw[dO hg,dO hg];exact⟨_,rfl,rfl,rfl⟩
   .rw[dK hg,dK hg,TP H hs G x];exact⟨_,rfl,rfl⟩
  .rw[dK x,dK x];rw[Tm.dL] at hn G;have hlen:=Tm.aaz hs.ok;simp only[Tm.ey,dY,ei (l:=l) VW,dU,Tm.eD,Tm.gn,Tm.fx]
   have key:∀(ts pre:List Tm),l=pre++ts->∃o,fa (λ(a:Int) (y:Tm)=>(λ(_:Unit)=>
     fm (pt n y room) λA B C=>
     if B then(
     gq (zP l)<|dH (dW l a) λI=>
     some (fp.ret ((Tm.mk k i s (yb l a A)),true,C)))
     else(some (.next ())))) ts pre.length ()=some o/\(match Tm.sE room ts with
      |none=>∃r:Tm×Bool×Bool,o=.inr r/\r.2.1=true/\r.2.2=false|some none=>o=.inl ()|some (some h)=>o=.inr (Tm.mk k i s (pre++h),true,true)):=by
    intro ts
    induction ts with
    |nil=>intro pre _;exact⟨_,rfl,by rw[Tm.sE]⟩|cons t ts ih=>
     intro pre D
     have j:t∈l:=by rw[D];simp
     have J:=eu Tm.aor j;obtain⟨⟨u,b,c⟩,K,v⟩:=VD H room n t VW (hs.arg t j) VW;rw[eV];simp only[K,gw]
     have d:dW l ((pre.length:Nat):Int)=some t:=by
      unfold dW;rw[dO VW];rw[D];simp
     have gk:yb l ((pre.length:Nat):Int) u=pre++u::ts:=by
      unfold yb;rw[D,BS,ID]
     have f:zP l=true:=by
      unfold zP BR;have:0<l.length:=List.length_pos_of_mem j;exact xG VW
     rw[Tm.sE];unfold ahv at v;cases e:t.Ka room with
     |none=>
      rw[e] at v;obtain⟨q1,F⟩:=v;simp only at q1 F;rw[dO q1,f,dU,d];exact⟨_,rfl,_,rfl,rfl,F⟩
     |some o=>
      cases o with
      |none=>
       rw[e] at v;obtain⟨rfl,q⟩:=iO v;obtain⟨rfl,rfl⟩:=iO q;rw[dK aal];simp only[dI,eQ];obtain⟨o,o1,o2⟩:=ih (pre++[u]) (by rw[D];simp);rw[oV] at o1;refine⟨o,o1,?_⟩;cases w:Tm.sE room ts with
       |none=>rw[w] at o2;exact o2
       |some q=>
        cases q with
        |none=>rw[w] at o2;exact o2
        |some h=>rw[w] at o2;simpa using o2
      |some L=>
       rw[e] at v;obtain⟨rfl,q⟩:=iO v;obtain⟨rfl,rfl⟩:=iO q;rw[dO rfl,f,dU,d];simp only[dI,gk];exact⟨_,rfl,rfl⟩
   obtain⟨o,o1,o2⟩:=key l [] rfl;rw[show(([]:List Tm).length)=0 from rfl] at o1;rw[o1];cases w:Tm.sE room l with
   |none=>
    rw[w] at o2;obtain⟨r,rfl,q1,F⟩:=o2;exact⟨r,rfl,q1,F⟩
   |some q=>
    cases q with
    |none=>rw[w] at o2;subst o2;exact⟨_,rfl,rfl⟩
    |some h=>rw[w] at o2;subst o2;exact⟨_,rfl,rfl⟩
def kV{t:Tm}(h:t.err=0):t.ok=true/\t.aor<=4096:=Tm.iK h
def EJ(steps:Int)(C:0<=steps/\steps<=65536):∀(k:Nat) (m:Int) (t:Tm) (N:Nat),(k:Int)=steps-m->0<=m->Sm (536870912+8192*m) t->t.aor<=4096->k<N->jL ((XP λ(d:Int) (f:Int) (i:Int) (j:Int) (l:List Ty) (n:List Tm)=>
   dH (gj FU (Tm.mk f i (Ty.mk j l) n)) λv=>
   fm (pt FU (Tm.mk f i (Ty.mk j l) n) (fD .i64 4096 v)) λa w x=>
   if w then(
   if(eo d steps) then(
   some (.ret ((Tm.mk 0 0 (Ty.mk 0 []) []),0,5)))
   else(if x then(
   some (.next ((eH .i64 d 1),a.aop,a.aos,a.dM.aop,a.dM.aoq,a.aoq)))
   else(some (.ret ((Tm.mk 0 0 (Ty.mk 0 []) []),0,4)))))
   else(dH (l6 FU (Tm.mk f i (Ty.mk j l) n)) λy=>
   some (.ret (y,d,0)))):(Int×Int×Int×Int×(List Ty)×(List Tm))->(Option (fp (Int×Int×Int×Int×(List Ty)×(List Tm)) (Tm×Int×Int)))) N (m,t.aop,t.aos,t.dM.aop,t.dM.aoq,t.aoq)=some (.inr (t.norm k m))
 |k,m,t,0,_,_,_,_,D=>by omega|k,m,t,N+1,G,hm,hs,hn,D=>by
  rw[gM];simp only[Bb,ahV];have hw:=Tm.kQ t hs.ok;rw[Ih VW];simp only[dI];rw[fF VW VW];obtain⟨⟨u,b,c⟩,F,r⟩:=VD (M:=536870912+8192*m) VW (4096-t.aor) FU t (by rw[fl];omega) hs VW;rw[F];simp only[gw];unfold ahv at r;cases e:t.Ka (4096-t.aor)with
  |none=>
   rw[e] at r;obtain⟨q1,B⟩:=r;simp only at q1 B;rw[dO q1];cases k with
   |zero=>
    have s:¬t.nf=true:=by
     intro h;rw[(Au _ t).1 h] at e;cases e
    rw[dO (by simp[eo];omega),Tm.norm,dK s];rfl
   |succ k=>
    rw[dK (by simp[eo];omega),dK (by rw[B];decide),Qq e];rfl
  |some o=>
   cases o with
   |none=>
    rw[e] at r;obtain⟨rfl,q⟩:=iO r;obtain⟨rfl,rfl⟩:=iO q;rw[dK aal,uA VW];cases k with
    |zero=>rw[Tm.norm,dO ((Au _ _).2 e)];rfl|succ k=>rw[Bj e];rfl
   |some H=>
    rw[e] at r;obtain⟨rfl,q⟩:=iO r;obtain⟨rfl,rfl⟩:=iO q;rw[dO rfl];cases k with
    |zero=>
     have s:¬t.nf=true:=by
      intro h;rw[(Au _ t).1 h] at e;cases e
     rw[dO (by simp[eo];omega),Tm.norm,dK s];rfl
    |succ k=>
     obtain⟨s1,s2,I⟩:=Nz (M:=536870912+8192*m) VW t hs VW _ e;rw[dK (by simp[eo];omega),dO rfl,Bz e,e9 VW VW];have A:Sm (536870912+8192*(m+1)) u:=⟨s1,by rw[show 536870912+8192*(m+1)=536870912+8192*m+8192 by omega];exact s2,VW⟩;exact EJ steps C k (m+1) u N VW VW A VW VW
def MC:∀(k:Nat) (m:Int) (t p:Tm) (n e:Int),t.norm k m=(p,n,e)->e≠0->p=Tm.z
 |0,m,t,p,n,e,h,he=>by
  rw[Tm.norm] at h
  split at h
  .obtain⟨_,h⟩:=iO h;obtain⟨_,h⟩:=iO h;exact absurd h.symm he
  .exact(iO h).1.symm
 |k+1,m,t,p,n,e,h,he=>by
  rw[Tm.norm] at h
  split at h
  .exact(iO h).1.symm
  .obtain⟨_,h⟩:=iO h;obtain⟨_,h⟩:=iO h;exact absurd h.symm he
  .exact MC k _ _ _ _ _ h he
def uT{t:Tm}(hw:t.wt<=1000000)(steps:Int):kO t steps=some (if t.err=0 then(if 0<=steps/\steps<=65536/\t.aov 536870912 then t.norm steps.toNat 0 else(Tm.z,0,1))else(Tm.z,0,t.err)):=by
 have b:=t.ij;unfold kO;rw[jQ VW];simp only[dI]
 by_cases he:t.err=0
 .obtain⟨d,hn⟩:=kV he;rw[dO he,dK (by simp[eR,he])];simp only[dY,jA,hJ]
  by_cases a1:steps<0
  .rw[dO a1,dO trivial,dK VW];rfl
  .rw[dK a1]
   by_cases a2:steps>65536
   .rw[dO a2,dO trivial,dK VW];rfl
   .rw[dK a2,AT FU t 536870912 (by rw[fl];omega) VW];simp only[dI]
    by_cases a:t.aov 536870912=true
    .have hs:Sm 536870912 t:=⟨d,a,VW⟩;rw[dO (c:=0<=steps/\_) ⟨VW,VW,a⟩,a,dK aal,EJ steps VW steps.toNat 0 t FU VW VW hs VW (by rw[fl];omega)];rfl
    .rw[dK (c:=0<=steps/\_) (λh=>a h.2.2),dO (by rw[ags] at a;rw[a];rfl)];rfl
 .rw[dK he,dO (by simp[eR,he])];rfl
def CZ{t:Tm}(hw:t.wt<=1000000)(steps:Int):∃p m e,kO t steps=some (p,m,e)/\p.wt<=1000000000:=by
 have b:Tm.z.wt<=1000000000:=aal
 rw[uT hw steps]
 by_cases he:t.err=0
 .obtain⟨f,hn⟩:=kV he;rw[dO he]
  by_cases c:0<=steps/\steps<=65536/\t.aov 536870912=true
  .rw[dO c];generalize a:t.norm steps.toNat 0=o;obtain⟨p,m,e⟩:=o;refine⟨_,_,_,rfl,?_⟩
   by_cases d:e=0
   .subst d;obtain⟨q1,h⟩:=HZ _ 536870912 _ _ _ _ VW ⟨f,c.2.2,VW⟩ hn a;have:=Tm.kQ p q1.ok;omega
   .rw[MC _ _ _ _ _ _ a d];exact b
  .rw[dK c];exact⟨_,_,_,rfl,b⟩
 .rw[dK he];exact⟨_,_,_,rfl,b⟩
def fb2:fb 2<=4096:=aal
def Bl{a b:Tm}(c:a.wt<=1000000000):∃r,rW a b=some r/\lX FU a b=some r:=by
 obtain⟨r,d,f⟩:=Lf (b:=b) c;obtain⟨q,q1,h⟩:=xJ FU a b (by rw[fl];exact c) c
 have:r=q:=by rw[L',f,h]
 subst this;exact⟨r,d,q1⟩
def Xj{a b:Tm}(o:a.wt<=1000000)(u:b.wt<=1000000)(steps:Int):∃c,ki a b steps=some c:=by
 unfold ki;rw[jQ VW,jQ (t:=b) VW];simp only[dI]
 by_cases d:eR a.err 0=true
 .rw[dO d];exact⟨_,rfl⟩
 .rw[dK d]
  by_cases h:eR b.err 0=true
  .rw[dO h];exact⟨_,rfl⟩
  .rw[dK h];obtain⟨r,_,v⟩:=Bl (a:=a) (b:=b) VW;rw[v];simp only[dI]
   by_cases i:r=true
   .rw[dO i];exact⟨_,rfl⟩
   .rw[dK i];obtain⟨p,m,e,w,x⟩:=CZ o steps;obtain⟨q,n,f,y,A⟩:=CZ u steps;rw[w,y];simp only[gw]
    by_cases j:eR e 0=true
    .rw[dO j];exact⟨_,rfl⟩
    .rw[dK j]
     by_cases k:eR f 0=true
     .rw[dO k];exact⟨_,rfl⟩
     .rw[dK k];obtain⟨s,_,s2⟩:=Bl (a:=p) (b:=q) x;rw[s2];simp only[dI]
      by_cases l:s=true
      .rw[dO l];exact⟨_,rfl⟩
      .rw[dK l];exact⟨_,rfl⟩
def JC{α:Type}{E:α->α->Option Int}{M:List α}:∀(l:List α) (i:Nat),(∀x∈l,∀y∈M,∃c,E x y=some c)->i+l.length<=M.length->∃o,fa (λ(d:Int) (f:α)=>(λ(_:Unit)=>dH (dW M d) λb=>dH (E f b) λa=>if(eR a 0) then(some (.ret a))else(some ((.next ()):fp Unit Int)))) l i ()=some o
 |[],i,_,_=>⟨.inl (),abm⟩|x::l,i,h,k=>by
  simp only[kY] at k;obtain⟨c,n⟩:=h x abm M[i] (Ek VW);rw[eV,gS,pE VW];simp only[dI,n]
  by_cases j:eR c 0=true
  .rw[dO j];exact⟨.inr c,rfl⟩
  .rw[dK j];simp only[dI,eQ];exact JC l (i+1) (λy hy=>h y (by simp[hy])) VW
def Fm.shape{k:Int}{s i:Ty}{ts us:List Tm}{l m:List Fm}(h:(Fm.mk k s ts l).ok=true)(d:(Fm.mk k i us m).ok=true):ts.length=us.length/\l.length=m.length:=by
 rw[Fm.gX] at h d;simp only[gJ] at h d;have c:=h.1.1;have a:=d.1.1;unfold Fm.node at c a
 split at c
 .rename_i f;rw[dO f] at a;simp only[gJ,oU] at c a;omega
 .rename_i f;rw[dK f] at a
  split at c
  .rename_i b;rw[dO b] at a;simp only[gJ,oU] at c a;omega
  .rename_i b;rw[dK b] at a;simp only[gJ,oU] at c a;omega
def Wm:∀(n:Nat) (a b:Fm),a.wt<=n->a.wt<=1000000->b.wt<=1000000->a.ok=true->b.ok=true->∃c,jK n a b=some c:=by
 intro n
 induction n with
 |zero=>intro t b h;have:=t.kf;omega
 |succ n ih=>
  intro a b h B i w d;cases a with
  |mk k s ts l=>
  cases b with
  |mk k' C us m=>
   rw[Fm.iE] at h B i;have G:=Fm.p7 l;have D:=Tm.p7 ts;rw[jK];simp only[Fm.ey,Fm.eD,Fm.ik,Fm.fx,dY,ei (l:=l) VW,ei (l:=ts) VW,dU,eW]
   by_cases j:k≠k'
   .rw[dO j];exact⟨11,rfl⟩
   .rw[dK j,im VW];simp only[dI];have q:k=k':=yU.1 j;subst q;obtain⟨s1,s2⟩:=Fm.shape w d;obtain⟨_,H,ol⟩:=Fm.p_ w;obtain⟨_,F,v⟩:=Fm.p_ d;cases s.lj C with
    |false=>exact⟨11,rfl⟩|true=>
     obtain⟨o,k2⟩:=JC (E:=λx y=>ki x y 1000) (M:=us) ts 0 (λx f y hy=>Xj (by have:=eu Tm.wt f;omega) (by have:=eu Tm.wt hy;omega) 1000) VW;simp only[eW] at k2;rw[dK aal,k2];cases o with
     |inr r=>exact⟨r,rfl⟩|inl u=>
      simp only[dI,ew];obtain⟨o,A⟩:=JC (E:=λx y=>jK n x y) (M:=m) l 0 (λx f y hy=>ih x y (by have:=eu Fm.wt f;omega) (by have:=eu Fm.wt f;omega) (by have:=eu Fm.wt hy;omega) (ol x f) (v y hy)) VW;simp only[eW] at A;rw[A];cases o with
      |inr r=>exact⟨r,rfl⟩|inl u=>exact⟨0,rfl⟩
def EC{a b:Fm}(h:a.wt<=1000000000)(i:b.wt<=1000000000):∃c,k4 a b=some c:=by
 unfold k4;rw[iz h,iz i];simp only[dI,eW]
 by_cases d:a.err≠0
 .rw[dO d];exact⟨_,rfl⟩
 .rw[dK d]
  by_cases f:b.err≠0
  .rw[dO f];exact⟨_,rfl⟩
  .rw[dK f];obtain⟨o1,n1⟩:=Fm.iK (yU.1 d);obtain⟨o2,n2⟩:=Fm.iK (yU.1 f);have k:=a.kQ o1;have l:=b.kQ o2;obtain⟨c,j⟩:=Wm FU a b (by rw[fl];omega) VW VW o1 o2;rw[j];exact⟨c,rfl⟩
def mo{g:List Ty}{x:Tm}{t:Ty}(h:eg g x t)(hg:jf g)(a:g.length+x.aor<=1000000):x.ty g=(t,0):=by
 have b:=(ZP h hg).2 x.aor (gY _) a;rw[Ae x.aor x (gY _) h.ok g hg a] at b;exact hU b
def RN{g:List Ty}{x:Tm}(c:x.ok=true)(hg:jf g)(h:qu x g 1=0):eg g x .nat:=by
 unfold qu at h
 split at h
 .cases h
 .rename_i d
  have f:(x.ty g).1.aop=1:=by
   rcases Int.emod_two_eq (x.ty g).1.aop with _|_<;>
   .by_cases a:(x.ty g).1.aop=1
    .exact a
    .exact absurd ⟨h,a⟩ d
  obtain⟨b,i⟩:=rz _ x (gY _) c g hg _ (zK h);rw[(vY i).1 f] at b;exact b
def US{g:List Ty}{x:Tm}(h:eg g x .nat)(hg:jf g)(a:g.length+x.aor<=1000000):qu x g 1=0:=by
 unfold qu;rw[mo h hg a];exact dK (λh=>h.2 rfl)
def BP(f:Fm)(t:f.ok=true):∀g,jf g->f.zC g=0->jy g f:=by
 refine Fm.nw (p:=λf=>∀g,jf g->f.zC g=0->jy g f) ?_ ?_ ?_ f t
 .intro a b l r g hg h;rw[Fm.uP] at h
  by_cases c:qu a g 1=0
  .by_cases i:qu b g 1=0
   .exact .eq (RN l hg c) (RN r hg i)
   .simp[fC,c,i] at h
  .simp[fC,c] at h
 .intro k a b j l r d n g hg h
  have o:i_ k=false:=by rcases j with rfl|rfl<;>rfl
  rw[Fm.uP,o] at h;simp only[rQ,fC,pP,if_true,pA,jt] at h
  by_cases c:a.zC g=0
  .rw[dO c] at h
   by_cases i:b.zC g=0
   .exact .two j (d g hg c) (n g hg i)
   .rw[dK i] at h;exact absurd h i
  .rw[dK c] at h;exact absurd h c
 .intro k s a j hs l d g hg h
  have o:i_ k=true:=by rcases j with rfl|rfl|rfl|rfl<;>rfl
  rw[Fm.uP,o] at h;simp only[rQ,fC,pP,if_true] at h
  by_cases c:a.zC (g++[s])=0
  .exact .q j hs (d _ (hg.app hs) c)
  .rw[dK c] at h;exact absurd h c
def o0{g:List Ty}{f:Fm}(h:jy g f):jf g->g.length+f.aor<=1000000->f.zC g=0:=by
 induction h with
 |eq n o=>
  intro hg c;rw[Fm.dL] at c;simp only[ee] at c;rw[Fm.uP];simp[fC,US n hg VW,US o hg VW]
 |two d _ _ i j=>
  intro hg c;rw[Fm.dL] at c;simp only[ee] at c;rename_i k a b _ _
  have l:i_ k=false:=by rcases d with rfl|rfl<;>rfl
  rw[Fm.uP,l];simp[fC,i hg VW,j hg VW]
 |q d hs _ ih=>
  intro hg c;rw[Fm.dL] at c;simp only[ee] at c;rename_i k s a _
  have l:i_ k=true:=by rcases d with rfl|rfl|rfl|rfl<;>rfl
  rw[Fm.uP,l];simp[fC,ih (hg.app hs) abv]
def jy.up{g:List Ty}{f:Fm}(h:jy g f):∀g1 g2 e:List Ty,g=g1++g2->jy (g1++e++g2) (f.up g2.length e.length):=by
 induction h with
 |eq l n=>
  intro g1 g2 e hg;rw[Fm.fE];exact .eq (l.up g1 g2 e hg) (n.up g1 g2 e hg)
 |two c _ _ d i=>
  intro g1 g2 e hg;rename_i k a b _ _
  have j:qB k=0:=by rcases c with rfl|rfl<;>rfl
  rw[Fm.fE,j,ti];exact .two c (d g1 g2 e hg) (i g1 g2 e hg)
 |q c hs _ ih=>
  intro g1 g2 e hg;rename_i k s a _
  have j:qB k=1:=by rcases c with rfl|rfl|rfl|rfl<;>rfl
  subst hg;have:=ih g1 (g2++[s]) e (by rw[tv]);rw[Fm.fE,j];rw[oV,<-tv] at this;exact .q c hs this
def jy.lift{g:List Ty}{f:Fm}(h:jy g f)(e:List Ty):jy (g++e) (f.up 0 e.length):=by
 have:=h.up g [] e abm;simpa using this
theorem jy.gP{g:List Ty}{f:Fm}(h:jy g f):∀(g1:List Ty) (s:Ty) (g2:List Ty) (a:Tm),g=g1++[s]++g2->eg g1 a s->jy (g1++g2) (Fm.gP g2.length f a):=by
 induction h with
 |eq l n=>
  intro g1 s g2 a hg b;rw[Fm.fN];exact .eq (l.gP g1 s g2 a hg b) (n.gP g1 s g2 a hg b)
 |two c _ _ d i=>
  intro g1 s g2 a hg b;rename_i k x y _ _
  have j:qB k=0:=by rcases c with rfl|rfl<;>rfl
  rw[Fm.fN,j,ti];exact .two c (d g1 s g2 a hg b) (i g1 s g2 a hg b)
 |q c hs _ ih=>
  intro g1 s g2 a hg b;rename_i k o x _
  have j:qB k=1:=by rcases c with rfl|rfl|rfl|rfl<;>rfl
  subst hg;have:=ih g1 s (g2++[o]) a abm b;rw[Fm.fN,j];rw[oV,<-tv] at this;exact .q c hs this
theorem jy.put{g:List Ty}{s:Ty}{f:Fm}(h:jy (g++[s]) f){a:Tm}(b:eg g a s):jy g (Fm.gP 0 f a):=by
 have:=h.gP g s [] a abm b;simpa using this
def eg.front{g:List Ty}{x:Tm}{t:Ty}(h:eg g x t)(e:List Ty):eg (e++g) x t:=by
 induction h with
 |@var g t i c f=>
  refine .var i abv ?_;rw[tS abv,<-f]
  congr 1
  simp;omega
 |lam c _ ih=>exact .lam c (by rw[tv];exact ih)|app _ _ a b=>exact .app a b|zero=>exact .zero|succ _ ih=>exact .succ ih|sF c _ _ _ a b d=>exact .sF c a b d|nil=>exact .nil|cons _ _ a b=>exact .cons a b|fold c _ _ _ a b d=>exact .fold c a b d|pair c _ _ a b=>exact .pair c a b|fst _ ih=>exact .fst ih|snd _ ih=>exact .snd ih|unit=>exact .unit
structure Hg (g:List Ty) (f:Fm):Prop where
 err:f.err=0
 ty:jy g f
def Hg.aor{g:List Ty}{f:Fm}(h:Hg g f):f.aor<=4096:=(Fm.iK h.err).2
def Hg.ok{g:List Ty}{f:Fm}(h:Hg g f):f.ok=true:=(Fm.iK h.err).1
def Hg.aov{g:List Ty}{f:Fm}(h:Hg g f)(hg:g.length<=16){m:Int}(hm:5000<=m):f.aov m=true:=h.ty.aov m (by have:=h.aor;omega)
def Hg.up{g:List Ty}{f:Fm}(h:Hg g f)(l:List Ty):Hg (g++l) (f.up 0 l.length):=by
 have hn:=Fm.kJ f 0 l.length;obtain⟨a,b⟩:=Fm.iK h.err;refine⟨?_,h.ty.lift l⟩;unfold Fm.err;rw[Fm.J3 f 0 l.length VW VW,a,dO rfl,hn,dK VW]
structure PG (L:List Fm) (c:dT):Prop where
 pl:PlR c
 Ag:c.lemmas=L
 ajg:∀f∈L,Hg [] f
 aow:∀f∈c.aow,Hg c.aot f
def PG.ahE{L:List Fm}{c:dT}(h:PG L c){l:List Ty}(k:jf l)(hn:c.aot.length+l.length<=16):∃a,gu c l=some a/\PG L a/\a.aot=c.aot++l/\a.aow=c.aow.map (Fm.up 0 l.length):=by
 obtain⟨a,n,o,q,i,j⟩:=h.pl.below k hn (λf b=>⟨(h.aow f b).err,(h.aow f b).aov h.pl.nv VW⟩);refine⟨a,n,⟨o,q.trans h.Ag,h.ajg,λf b=>?_⟩,i,j⟩;rw[j] at b;obtain⟨f0,d,rfl⟩:=ql.1 b;rw[i];exact(h.aow f0 d).up l
def PG.below{L:List Fm}{c:dT}(h:PG L c){s:Ty}(hs:s.err=0)(hn:c.aot.length+1<=16):∃a,gu c [s]=some a/\PG L a/\a.aot=c.aot++[s]/\a.aow=c.aow.map (Fm.up 0 1):=
 h.ahE (l:=[s]) (λx b=>by rw[Hf.1 b];exact hs) hn
def PG.with{L:List Fm}{c:dT}(h:PG L c){f:Fm}(i:Hg c.aot f)(hn:c.aow.length+1<=16):∃a,ia c f=some a/\PG L a/\a.aot=c.aot/\a.aow=c.aow++[f]:=by
 obtain⟨a,j,k,l,b,d⟩:=h.pl.with (f:=f) hn;refine⟨a,j,⟨k,l.trans h.Ag,h.ajg,λx hx=>?_⟩,b,d⟩;rw[d] at hx;rw[b];rcases tl.1 hx with hx|hx
 .exact h.aow x hx
 .rw[Hf.1 hx];exact i
def PG.room{L:List Fm}{c:dT}(h:PG L c){v k:Nat}(b:v<=100)(d:k<=100):(gb c v k=some 0/\c.aot.length+v<=16/\c.aow.length+k<=16)\/(gb c v k=some 3/\(16<c.aot.length+v\/16<c.aow.length+k)):=by
 unfold gb;have f:=h.pl.nv;have i:=h.pl.nh;rw[fV,fV,e9 VW VW,e9 VW VW,lW]
 by_cases a:(pw ((c.aot.length:Int)+v) 16||pw ((c.aow.length:Int)+k) 16)=true
 .rw[dO a];simp only[sx,hJ] at a;exact .inr ⟨rfl,VW⟩
 .rw[dK a];simp only[sx,hJ,not_or] at a;exact .inl ⟨rfl,VW,VW⟩
def HH.len{N:Int}:∀{l:List Int} {lo:Int},HH l->(∀x∈l,lo<=x/\x<N)->(l.length:Int)<=max 0 (N-lo)
 |[],lo,_,_=>by simp;omega|a::l,lo,.cons c d,h=>by
  have f:=h a abm;have ih:=HH.len (lo:=a+1) d (λx b=>⟨by have:=c x b;omega,(h x (by simp[b])).2⟩);simp only[kY];omega
def Us.len{l:List Int}{m:Nat}(h:Us l m):l.length<=32:=by
 have:=HH.len (N:=32) (lo:=0) h.srt (λx a=>⟨h.pos x a,h.bound x a⟩);omega
def eg.Dp{g:List Ty}{x:Tm}{t:Ty}(h:eg g x t):∀j:Int,(g.length:Int)<=j->x.aox j=0:=by
 induction h with
 |@var g t i k l=>
  intro j a;rw[Tm.fu,dK (λh=>by have:=h.2;omega)];rfl
 |@lam g s b t k _ ih=>
  intro j a;rw[Tm.fu,dK (λh=>by cases h.1)];simp only[ee];rw[ih (j+eT 2) (by show _<=j+1;simp;omega)]
 |app _ _ c d=>intro j a;rw[Tm.fu,dK (λh=>by cases h.1)];simp only[ee,show eT 3=0 from rfl,ti,c j a,d j a]
 |zero=>intro j a;rw[Tm.fu,dK (λh=>by cases h.1)];rfl
 |succ _ ih=>intro j a;rw[Tm.fu,dK (λh=>by cases h.1)];simp only[ee,show eT 5=0 from rfl,ti,ih j a]
 |sF k _ _ _ c d f=>intro j a;rw[Tm.fu,dK (λh=>by cases h.1)];simp only[ee,show eT 6=0 from rfl,ti,c j a,d j a,f j a]
 |nil=>intro j a;rw[Tm.fu,dK (λh=>by cases h.1)];rfl
 |cons _ _ c d=>intro j a;rw[Tm.fu,dK (λh=>by cases h.1)];simp only[ee,show eT 8=0 from rfl,ti,c j a,d j a]
 |fold k _ _ _ c d f=>intro j a;rw[Tm.fu,dK (λh=>by cases h.1)];simp only[ee,show eT 9=0 from rfl,ti,c j a,d j a,f j a]
 |pair k _ _ c d=>intro j a;rw[Tm.fu,dK (λh=>by cases h.1)];simp only[ee,show eT 10=0 from rfl,ti,c j a,d j a]
 |fst _ ih=>intro j a;rw[Tm.fu,dK (λh=>by cases h.1)];simp only[ee,show eT 11=0 from rfl,ti,ih j a]
 |snd _ ih=>intro j a;rw[Tm.fu,dK (λh=>by cases h.1)];simp only[ee,show eT 12=0 from rfl,ti,ih j a]
 |unit=>intro j a;rw[Tm.fu,dK (λh=>by cases h.1)];rfl
def oE:Fm:=.mk 0 (.mk 0 []) [] []
def TF(r:Option (Fm×List Int×Int)):Option (tk×Int):=
 fm r λb i h=>
 if(eR h 0) then(
 some ((tk.mk (Fm.mk 0 (Ty.mk 0 []) [] []) []),h))
 else(dH (km b) λc=>
 if(eR c 0) then(
 some ((tk.mk (Fm.mk 0 (Ty.mk 0 []) [] []) []),4))
 else(en (λ(d:List Int)=>
 some ((tk.mk b d),0)) λa=>
 dR (nW b) λf j=>
 if f then(
 a i)
 else(a [])))
def Ew{α:Type}{F:Int->α->Unit->Option (fp Unit Bool)}(w:α->Nat):∀(l:List α) (i:Nat),(∀j x,x∈l->F j x ()=if 0<w x then some (.ret true)else some (.next ()))->fa F l i ()=some (if 0<ee w l then .inr true else .inl ())
 |[],i,_=>rfl|x::l,i,h=>by
  have ih:=Ew w l (i+1) (λj y hy=>h j y (by simp[hy]));rw[eV,h i x abm]
  by_cases a:0<w x
  .rw[dO a,dO (show 0<ee w (x::l) by simp only[ee];omega)];rfl
  .rw[dK a];show fa F l (i+1) ()=_;rw[ih]
   by_cases b:0<ee w l
   .rw[dO b,dO (show 0<ee w (x::l) by simp only[ee];omega)]
   .rw[dK b,dK (show¬0<ee w (x::l) by simp only[ee];omega)]
def OF:∀(n:Nat) (t:Tm) (a:Int),t.aor<=n->t.aor<=1000000000->0<=a->a+t.aor<=10000000000->vE n t a=some (decide (0<t.aox a)):=by
 intro n
 induction n with
 |zero=>intro t a h;have:=t.eF;omega
 |succ n ih=>
  intro t a h d r f;cases t with
  |mk k i s l=>
   rw[Tm.dL] at h d f;have u:=Tm.fA l;have v:=hV k;rw[vE,Tm.fu];simp only[Tm.ey,Tm.gn,Tm.eD,dY,u6,gJ,gi]
   by_cases c:k=1/\i=a
   .rw[dO c,dO c]
    congr 1
    exact(xG VW).symm
   .rw[dK c,dK c,ei VW,dU,Ew (Tm.aox (a+eT k)) l 0 (λj x o=>by
     have q:=eu Tm.aor o;rw[oi,dI,Tm.eD,e9 VW VW,ih x (a+eT k) VW VW VW VW,dI]
     by_cases b:0<x.aox (a+eT k)
     .rw[dO b,dO (xG b)]
     .rw[dK b,dK (by simpa using b)]),dI,vo]
    by_cases b:0<ee (Tm.aox (a+eT k)) l
    .rw[dO b,p9,xG b]
    .rw[dK b,ew,KG b]
def EN:∀(n:Nat) (t:Fm) (a:Int),t.aor<=n->t.aor<=1000000000->0<=a->a+t.aor<=10000000000->qT n t a=some (decide (0<t.aox a)):=by
 intro n
 induction n with
 |zero=>intro t a h;have:=t.eF;omega
 |succ n ih=>
  intro t a h c r d;cases t with
  |mk k s ts l=>
   rw[Fm.dL] at h c d;have u:=Fm.fA l;have q:=Tm.fA ts;have v:=uI k;rw[qT,Fm.fu];simp only[Fm.ey,Fm.ik,dY]
   rw[ei VW,dU,Ew (Tm.aox a) ts 0 (λj x f=>by
    have i:=eu Tm.aor f;rw[OF FU x a (by rw[fl];omega) VW VW VW,dI]
    by_cases b:0<x.aox a
    .rw[dO b,dO (xG b)]
    .rw[dK b,dK (by simpa using b)]),dI]
   by_cases o:0<ee (Tm.aox a) ts
   .rw[dO o,p9,xG VW]
   .rw[dK o,ew,ei VW,dU,Ew (Fm.aox (a+qB k)) l 0 (λj x f=>by
     have i:=eu Fm.aor f;rw[qk,dI,Fm.eD,e9 VW VW,ih x (a+qB k) VW VW VW VW,dI]
     by_cases b:0<x.aox (a+qB k)
     .rw[dO b,dO (xG b)]
     .rw[dK b,dK (by simpa using b)]),dI]
    by_cases b:0<ee (Fm.aox (a+qB k)) l
    .rw[dO b,p9,xG VW]
    .rw[dK b,ew,KG VW]
def Tm.Em(s:Tm):∀(t:Tm) (n:Int),t.ok=true->t.aox n=0->Tm.gP n t s=t.up (n+1) (-1):=by
 intro t
 induction t using Tm.ind with
 |h k i ty l ih=>
  intro n d f;have hi:=Tm.lM d;rw[Tm.fu] at f;rw[Tm.fN,Tm.fE]
  by_cases a:k=1
  .subst a;obtain⟨rfl,rfl⟩:=Tm.aan d
   have b:i≠n:=λh=>by rw[dO ⟨rfl,h⟩] at f;omega
   rw[dO rfl];unfold Tm.lz;rw[dK b]
   by_cases j:n<i
   .rw[dO j,dO ⟨rfl,VW⟩];rfl
   .rw[dK j,dK (λh=>by omega)];rfl
  .rw[dK a,dK (λh=>a h.1)]
   congr 1
   refine th λx c=>?_;have:=eu (Tm.aox (n+eT k)) c;rw[ih x c (n+eT k) (hi.2.2.2.1 x c) VW,show n+eT k+1=n+1+eT k by omega]
def Fm.Em(s:Tm):∀(t:Fm) (n:Int),t.ok=true->t.aox n=0->Fm.gP n t s=t.up (n+1) (-1):=by
 intro t
 induction t using Fm.ind with
 |h k ty ts l ih=>
  intro n b c;obtain⟨_,d,f⟩:=Fm.p_ b;rw[Fm.fu] at c;rw[Fm.fN,Fm.fE]
  congr 1
  .refine th λx a=>?_;have:=eu (Tm.aox n) a;exact Tm.Em s x n (d x a) VW
  .refine th λx a=>?_;have:=eu (Fm.aox (n+qB k)) a;rw[ih x a (n+qB k) (f x a) VW,show n+qB k+1=n+1+qB k by omega]
def Pe:∀(n:Nat) (t:Tm) (f:Int),t.aor<=n->t.aor<=1000000000->0<=f->f+t.aor<=10000000000->t.aov 1000000000000=true->sK n t f (-1)=some (t.up f (-1)):=by
 intro n
 induction n with
 |zero=>intro t f h;have:=t.eF;omega
 |succ n ih=>
  intro t f h a w b hi;cases t with
  |mk k i s l=>
   rw[Tm.dL] at h a b;rw[Tm.fo] at hi;simp only[gJ,oU,kZ] at hi;have y:=Tm.fA l;have A:=hV k;rw[sK];simp only[Tm.ey,Tm.gn,Tm.eD,Tm.fx,dY,ei (l:=l) VW,dU];rw[kh (Tm.up (f+eT k) (-1)) l 0 [] abv]
   .rw[Tm.fE];simp only[dI,ew,n9,w5,Tm.mk.injEq,QO,zT]
    by_cases c:k=1/\f<=i
    .obtain⟨rfl,d⟩:=c;rw[e9 VW VW];have q:eo 1 1=true:=rfl
     have r:qz i f=true:=by simp[d]
     simp[q,r,d]
    .rw[dK c]
     have e:fq (eo k 1) (qz i f) false=false:=by
      rw[u6,Yr];simp only[ne_eq,gJ,gi,ju];exact c
     rw[e];rfl
   .intro j x v o u;have:=eu Tm.aor o;rw[oi];simp only[dI,Tm.eD];rw[e9 VW VW,ih x (f+eT k) VW VW VW VW (hi.2 x o)];simp[fk (l:=v) (m:=[x.up (f+eT k) (-1)]) (by simpa using u)]
def OK:∀(n:Nat) (t:Fm) (f:Int),t.aor<=n->t.aor<=1000000000->0<=f->f+t.aor<=10000000000->t.aov 1000000000000=true->mK n t f (-1)=some (t.up f (-1)):=by
 intro n
 induction n with
 |zero=>intro t f h;have:=t.eF;omega
 |succ n ih=>
  intro t f h b i c hi;cases t with
  |mk k s ts l=>
   rw[Fm.dL] at h b c;rw[Fm.fo] at hi;simp only[gJ,kZ] at hi;have q:=Fm.fA l;have o:=Tm.fA ts;have r:=uI k;rw[mK];simp only[Fm.ey,Fm.ik,Fm.eD,Fm.fx,dY,ei (l:=l) VW,ei (l:=ts) VW,dU];rw[kh (Tm.up f (-1)) ts 0 [] abv]
   .simp only[dI,ew];rw[kh (Fm.up (f+qB k) (-1)) l 0 [] abv]
    .simp[Fm.fE]
    .intro j x v a d;have:=eu Fm.aor a;rw[qk];simp only[dI,Fm.eD];rw[e9 VW VW,ih x (f+qB k) VW VW VW VW (hi.2 x a)];simp[fk (l:=v) (m:=[x.up (f+qB k) (-1)]) (by simpa using d)]
   .intro j x v a d;have:=eu Tm.aor a;rw[Pe FU x f (by rw[fl];omega) VW i VW (hi.1 x a)];simp[fk (l:=v) (m:=[x.up f (-1)]) (by simpa using d)]
def Xz:JL Tm.z:=by
 show JL (Tm.mk 0 0 (Ty.mk 0 []) []);intro c b d;have a:FU=999999999+1:=fl;unfold r8 oZ;rw[a,hD,dK (show¬(eo (Tm.mk 0 0 (Ty.mk 0 []) []).aop 1=true) by decide)];simp only[Tm.eD,Tm.fx,Tm.ey,Tm.gn,dY];rw[pK aal,dI,ei aal,dU];rfl
def AK{f:Fm}(a:f.ok=true)(hn:f.aor<=50000000)(b:f.aov 1000000000000=true)(c:f.aox 0=0):k0 f 0 (Tm.mk 0 0 (Ty.mk 0 []) [])=some (f.up 1 (-1)):=by
 rw[show Tm.mk 0 0 (Ty.mk 0 []) []=Tm.z from rfl,vN a hn b Xz VW VW,Fm.Em _ f 0 a c];rfl
noncomputable def DI (x:Tm) (e:Int):Tm×Int:=if e=0 then((x.norm 1000 0).1,(x.norm 1000 0).2.2)else(x,e)
def rN{α:Type}(f:α->Int->α×Int):List α->Int->List α×Int
 |[],e=>([],e)|x::l,e=>((f x e).1::(rN f l (f x e).2).1,(rN f l (f x e).2).2)
mutual
noncomputable def Fm.tX:Fm->Int->Fm×Int
 |.mk k s ts l,e=>(.mk k s (rN DI ts e).1 (Fm.SO l (rN DI ts e).2).1,(Fm.SO l (rN DI ts e).2).2)
noncomputable def Fm.SO:List Fm->Int->List Fm×Int
 |[],e=>([],e)|f::l,e=>((f.tX e).1::(Fm.SO l (f.tX e).2).1,(Fm.SO l (f.tX e).2).2)
end
def Fm.Vb:∀(l:List Fm) (e:Int),Fm.SO l e=rN Fm.tX l e
 |[],e=>by rw[Fm.SO,rN]|f::l,e=>by rw[Fm.SO,rN,Fm.Vb l]
def Fm.FP(k:Int)(s:Ty)(ts:List Tm)(l:List Fm)(e:Int):(Fm.mk k s ts l).tX e=(.mk k s (rN DI ts e).1 (rN Fm.tX l (rN DI ts e).2).1,(rN Fm.tX l (rN DI ts e).2).2):=by rw[Fm.tX,Fm.Vb]
def vy{α:Type}{f:α->Int->α×Int}:∀(l:List α) (e:Int),(∀x∈l,∀e,e≠0->(f x e).2=e)->e≠0->(rN f l e).2=e
 |[],e,_,_=>rfl|x::l,e,h,he=>by
  have a:=h x abm e he;simp only[rN];rw[a];exact vy l e (λy hy=>h y (by simp[hy])) he
def Bc{x:Tm}{e:Int}(he:e≠0):(DI x e).2=e:=by unfold DI;rw[dK he]
def Fm.Jv(f:Fm):∀e:Int,e≠0->(f.tX e).2=e:=by
 induction f using Fm.ind with
 |h k s ts l ih=>
  intro e he;rw[Fm.FP];have a:=vy (f:=DI) ts e (λx _ e he=>Bc he) he;simp only[];rw[a];exact vy l e ih he
structure Nm (x:Tm):Prop where
 err:x.err=0
 aov:x.aov 536870912=true
def Nm.one{x:Tm}(h:Nm x):kO x 1000=some (x.norm 1000 0):=by
 obtain⟨a,hn⟩:=kV h.err;have hw:=x.kQ a;have b:=uT (t:=x) VW 1000
 rwa [dO h.err,dO ⟨VW,VW,h.aov⟩] at b
inductive Yn:Fm->Prop
 |mk {k s ts l}:(∀x∈ts,Nm x)->(∀f∈l,Yn f)->Yn (.mk k s ts l)
def Yn.of(f:Fm):f.aor<=4096->f.ok=true->f.aov 536870912=true->Yn f:=by
 induction f using Fm.ind with
 |h k s ts l ih=>
  intro hn d b;obtain⟨_,i,j⟩:=Fm.p_ d;rw[Fm.dL] at hn;rw[Fm.fo,gJ,kZ,kZ] at b;refine .mk (λx c=>⟨?_,b.1 x c⟩) (λf a=>?_)
  .have:=eu Tm.aor c;unfold Tm.err;rw[dO (i x c),dK VW]
  .have:=eu Fm.aor a;exact ih f a VW (j f a) (b.2 f a)
def HM:∀(n:Nat) (f:Fm),f.aor<=n->f.aor<=1000000->Yn f->np n f=some (if(f.tX 0).2=0 then((f.tX 0).1,0)else(oE,(f.tX 0).2)):=by
 intro n
 induction n with
 |zero=>intro f h;have:=f.eF;omega
 |succ n ih=>
  intro f hn L hm;cases f with
  |mk k s ts l=>
   cases hm with
   |mk M N=>
    rw[Fm.dL] at hn L;have O:=je Tm.aor ts λt _=>t.eF;have P:=je Fm.aor l λt _=>t.eF;rw[np,Fm.FP];simp only[Fm.fx,Fm.ey,Fm.eD,Fm.ik,dY];rw[ei VW,dU]
    have r:∀(us:List Tm) (j:Nat) (v:List Tm),(∀t∈us,Nm t)->v.length+us.length<=1000000000->fa (λ(Q:Int) (F:Tm)=>(λ(B:List Tm)=>
       fm (kO F 1000) λc I d=>
       if(eR d 0) then(
       some (.ret ((Fm.mk 0 (Ty.mk 0 []) [] []),d)))
       else(gq (fM B [c])<|some ((.next (fW B [c])):fp (List Tm) (Fm×Int))))) us j v=some (if(rN DI us 0).2=0 then .inl (v++(rN DI us 0).1)else .inr (oE,(rN DI us 0).2)):=by
     intro us
     induction us with
     |nil=>intro j v _ _;simp[rN]|cons t us w=>
      intro j v hm G;simp only[kY] at G;rw[eV,(hm t abm).one]
      have H:DI t 0=((t.norm 1000 0).1,(t.norm 1000 0).2.2):=by unfold DI;rw[dO rfl]
      obtain⟨y,m,a,C⟩:∃y m a,t.norm 1000 0=(y,m,a):=⟨_,_,_,rfl⟩;rw[C] at H|-;rw[gw]
      by_cases he:a=0
      .subst he;rw[dK aal,fk abv,dU];simp only[dI,eQ];rw[ig,w (j+1) (v++[y]) (λu hu=>hm u (by simp[hu])) abv];simp only[rN,H];simp
      .rw[dO (by rw[eW];exact he)];simp only[rN,H];rw[vy (f:=DI) us a (λx _ e he=>Bc he) he,dK he];rfl
    have A:∀(us:List Fm) (j:Nat) (v:List Fm),(∀t∈us,Yn t/\t.aor<=n/\t.aor<=1000000)->v.length+us.length<=1000000000->fa (λ(J:Int) (D:Fm)=>(λ(i:List Fm)=>
       dR (np n D) λo q=>
       if(eR q 0) then(
       some (.ret ((Fm.mk 0 (Ty.mk 0 []) [] []),q)))
       else(gq (fM i [o])<|some ((.next (fW i [o])):fp (List Fm) (Fm×Int))))) us j v=some (if(rN Fm.tX us 0).2=0 then .inl (v++(rN Fm.tX us 0).1)else .inr (oE,(rN Fm.tX us 0).2)):=by
     intro us
     induction us with
     |nil=>intro j v _ _;simp[rN]|cons t us w=>
      intro j v hm G;simp only[kY] at G;obtain⟨a1,a2,a3⟩:=hm t abm;rw[eV,ih t a2 a3 a1];obtain⟨y,a,C⟩:∃y a,t.tX 0=(y,a):=⟨_,_,rfl⟩;rw[C]
      by_cases he:a=0
      .subst he;simp only[if_true];rw[dP,dK aal,fk abv,dU];simp only[dI,eQ];rw[ig,w (j+1) (v++[y]) (λu hu=>hm u (by simp[hu])) abv];simp only[rN,C];simp
      .simp only[dK he];rw[dP,dO (by rw[eW];exact he)];simp only[rN,C];rw[vy (f:=Fm.tX) us a (λx _ e he=>Fm.Jv x e he) he,dK he];rfl
    rw[r ts 0 [] M abv,dI]
    by_cases he:(rN DI ts 0).2=0
    .rw[dO he,ew,ei VW,dU,A l 0 [] (λt K=>by
      have:=eu Fm.aor K
      exact⟨N t K,VW,VW⟩) abv,dI,he]
     by_cases b:(rN Fm.tX l 0).2=0
     .rw[dO b,dO b,ew,n9,n9]
     .rw[dK b,dK b,p9]
    .rw[dK he,p9,vy (f:=Fm.tX) l _ (λx _ e he=>Fm.Jv x e he) he,dK he]
def Ty.alj:∀(n:Nat) (s:Ty),s.aor<=n->s.err=0->∃a,eg [] a s:=by
 intro n
 induction n with
 |zero=>intro s h;have:=s.eF;omega
 |succ n ih=>
  intro s hn he;rcases Ty.rR he with rfl|rfl|rfl|⟨a,b,rfl,d,c⟩|⟨a,b,rfl,d,c⟩
  .exact⟨_,.zero⟩
  .exact⟨_,.nil⟩
  .exact⟨_,.unit⟩
  .rw[Ty.wh] at hn;obtain⟨x,f⟩:=ih a VW d;obtain⟨y,hy⟩:=ih b VW c;exact⟨_,.pair he f hy⟩
  .rw[Ty.kj] at hn;obtain⟨y,hy⟩:=ih b VW c;exact⟨_,.lam he (by have:=hy.front [a];simpa using this)⟩
def jy.down{g:List Ty}{s:Ty}{f:Fm}(h:jy (g++[s]) f)(hs:s.err=0)(c:f.aox 0=0):jy g (f.up 1 (-1)):=by
 obtain⟨a,d⟩:=Ty.alj _ s (gY _) hs
 have b:eg g a s:=by simpa using d.front g
 have:=h.put b
 rwa [Fm.Em a f 0 h.ok c] at this
def eg.nm{g:List Ty}{x:Tm}{t:Ty}(h:eg g x t)(hg:g.length<=1000000)(a:x.aor<=4096):Nm x:=by
 refine⟨?_,h.aov _ VW⟩;unfold Tm.err;rw[dO h.ok,dK VW]
def aaY{g:List Ty}{x:Tm}{t:Ty}(h:eg g x t)(hg:g.length<=1000000)(b:x.aor<=4096){e:Int}(he:(DI x e).2=0):e=0/\eg g (DI x e).1 t/\(DI x e).1.aor<=4096:=by
 by_cases c:e=0
 .subst c;unfold DI at he|-;simp only[if_true] at he|-;obtain⟨a,n,f,d⟩:∃a n f,x.norm 1000 0=(a,n,f):=⟨_,_,_,rfl⟩;rw[d] at he|-;simp only[] at he|-;subst he;exact⟨trivial,eg.norm _ _ _ _ _ h d,(HZ 1000 536870912 0 x a n VW (Sm.start (h.nm hg b).err (h.nm hg b).aov) b d).2⟩
 .rw[Bc c] at he;exact absurd he c
def VO(a b:Tm)(e:Int):(Fm.mk 1 .z [a,b] []).tX e=(.mk 1 .z [(DI a e).1,(DI b (DI a e).2).1] [],(DI b (DI a e).2).2):=by rw[Fm.FP];rfl
def UY(k:Int)(a b:Fm)(e:Int):(Fm.mk k .z [] [a,b]).tX e=(.mk k .z [] [(a.tX e).1,(b.tX (a.tX e).2).1],(b.tX (a.tX e).2).2):=by rw[Fm.FP];rfl
def aeS(k:Int)(s:Ty)(a:Fm)(e:Int):(Fm.mk k s [] [a]).tX e=(.mk k s [] [(a.tX e).1],(a.tX e).2):=by rw[Fm.FP];rfl
def aaM{g:List Ty}{f:Fm}(h:jy g f):∀(e:Int),g.length+f.aor<=1000000->f.aor<=4096->(f.tX e).2=0->e=0/\jy g (f.tX e).1/\(f.tX e).1.aor<=3000*f.aor:=by
 induction h with
 |@eq g a b c o=>
  intro e hg hn he;rw[VO] at he|-;rw[Fm.dL] at hn hg|-;simp only[ee] at hn hg|-;obtain⟨d,i,r⟩:=aaY o VW VW he;obtain⟨a1,a2,a3⟩:=aaY c VW VW d;refine⟨a1,.eq a2 i,?_⟩;rw[Fm.dL];simp only[ee];have:=a.eF;have:=b.eF;omega
 |@two g k a b j c o l n=>
  intro e hg hn he;rw[UY] at he|-;rw[Fm.dL] at hn hg|-;simp only[ee] at hn hg|-;obtain⟨d,i,r⟩:=n _ VW VW he;obtain⟨a1,a2,a3⟩:=l _ VW VW d;refine⟨a1,.two j a2 i,?_⟩;rw[Fm.dL];simp only[ee];omega
 |@q g k s a j hs c ih=>
  intro e hg hn he;rw[aeS] at he|-;rw[Fm.dL] at hn hg|-;simp only[ee] at hn hg|-;obtain⟨a1,a2,a3⟩:=ih _ abv VW he;refine⟨a1,.q j hs a2,?_⟩;rw[Fm.dL];simp only[ee];omega
noncomputable def yz (f:Fm):Fm×Int:=if f.aox 0=0 then(f.up 1 (-1),0)else if(f.tX 0).2≠0 then(oE,(f.tX 0).2)else if(f.tX 0).1.aox 0≠0 then(oE,6)else((f.tX 0).1.up 1 (-1),0)
def SM{g:List Ty}{s:Ty}{f:Fm}(h:Hg (g++[s]) f)(hg:g.length<=1000)(hs:s.err=0)(a:(yz f).2=0):jy g (yz f).1/\(yz f).1.aor<=3000*4096:=by
 have hn:=h.aor;unfold yz at a|-
 split
 .rename_i c;refine⟨h.ty.down hs c,?_⟩;show(f.up 1 (-1)).aor<=_;rw[Fm.kJ];omega
 .rename_i c;rw[dK c] at a
  split
  .rename_i b;rw[dO b] at a;exact absurd a b
  .rename_i b;rw[dK b] at a
   split
   .rename_i d;rw[dO d] at a;cases a
   .rename_i d;obtain⟨_,a2,a3⟩:=aaM h.ty 0 abv hn (yU.1 b);refine⟨a2.down hs VW,?_⟩;show((f.tX 0).1.up 1 (-1)).aor<=_;rw[Fm.kJ];omega
abbrev PR:=(Fm×Nat)⊕Int
def pbind(r:PR)(k:Fm->Nat->PR):PR:=match r with|.inl p=>k p.1 p.2|.inr e=>.inr e
def Co(c:Prop)[Decidable c](e:Int)(r:PR):PR:=if c then .inr e else r
theorem vl{c:Prop}[Decidable c]{e:Int}{r:PR}(h:c):Co c e r=.inr e:=dO h
theorem ox{c:Prop}[Decidable c]{e:Int}{r:PR}(h:¬c):Co c e r=r:=dK h
def mf(e:Int)(r:PR):PR:=if e=0 then r else .inr e
@[simp] theorem iP(f:Fm)(m:Nat)(k:Fm->Nat->PR):pbind (.inl (f,m)) k=k f m:=rfl
theorem iv{e:Int}{r:PR}(h:e=0):mf e r=r:=dO h
theorem pY{e:Int}{r:PR}(h:e≠0):mf e r=.inr e:=dK h
noncomputable def vO (r:PR):PR:=pbind r λf m=>if f.err=0 then .inl (f,if f.has then m else 0)else .inr 4
def KS(r:PR)(k:Int):PR:=pbind r λf m=>if f.aop=k then .inl (f,m)else .inr 10
noncomputable def B2 (a b:Fm):Int:=(k4 a b).getD 0
noncomputable def GR (r:PR) (F:Fm) (t:Tm):PR:=pbind r λf m=>mf (l9 F t).2 (mf (B2 (l9 F t).1 f) (.inl (f,m)))
def MR(t:Tm):Nat->Nat
 |0=>0|j+1=>if 0<t.aox j then MR t j|||2^j else MR t j
def xb(t:Tm):Nat:=MR t 32
def MI(t:Tm):∀(n i:Nat),(MR t n).testBit i=true↔i<n/\0<t.aox i
 |0,i=>by simp[MR]|n+1,i=>by
  have ih:=MI t n i;rw[MR]
  by_cases h:0<t.aox n
  .rw[dO h,aic,sx,ih,akF];simp only[oU];constructor
   .rintro(⟨a,b⟩|rfl)
    .exact⟨VW,b⟩
    .exact⟨VW,h⟩
   .rintro⟨a,b⟩
    by_cases hi:n=i
    .exact .inr hi
    .exact .inl ⟨VW,b⟩
  .rw[dK h,ih];constructor
   .rintro⟨a,b⟩;exact⟨VW,b⟩
   .rintro⟨a,b⟩;refine⟨?_,b⟩;rcases uC i n with hh|hh
    .exact hh
    .obtain rfl:i=n:=VW
     exact absurd b h
def Mt(t:Tm)(i:Nat):(xb t).testBit i=true↔i<32/\0<t.aox i:=MI t 32 i
def v0:Tm:=.mk 1 0 (.mk 0 []) []
def v1:Tm:=.mk 1 1 (.mk 0 []) []
noncomputable def CA (L:List Fm) (k i:Int) (s:Ty) (ts:List Tm) (fs:List Fm) (sub:Nat->List Ty->List Fm->PR) (g:List Ty) (hs:List Fm):PR:=
 let t:=ts.getD 0 Tm.z
 let F:=fs.getD 0 oE
 if k=1 then Co ((hs.length:Int)<=i) 8 (.inl (hs.getD (hs.length-1-i.toNat) oE,0))
 else if k=2 then Co ((L.length:Int)<=i) 9 (.inl (L.getD i.toNat oE,0))
 else if k=3 then pbind (sub 0 g hs) λa m=>pbind (sub 1 g hs) λb n=>.inl (.mk 2 .z [] [a,b],m|||n)
 else if k=4 then pbind (KS (sub 0 g hs) 2) λa m=>.inl (a.aoq.getD 0 oE,m)
 else if k=5 then pbind (KS (sub 0 g hs) 2) λa m=>.inl (a.aoq.getD 1 oE,m)
 else if k=6 then mf (F.zC g) (Co (16<hs.length+1) 3 (pbind (sub 0 g (hs++[F])) λb m=>.inl (.mk 3 .z [] [F,b],m)))
 else if k=7 then pbind (KS (sub 0 g hs) 3) λa m=>pbind (sub 1 g hs) λb n=>mf (B2 (a.aoq.getD 0 oE) b) (.inl (a.aoq.getD 1 oE,m|||n))
 else if k=8 then Co (16<g.length+1) 3 (pbind (sub 0 (g++[s]) (hs.map (Fm.up 0 1))) λb m=>.inl (.mk 4 s [] [b],m/2))
 else if k=12 then Co (16<g.length+1) 3 (pbind (sub 0 (g++[s]) (hs.map (Fm.up 0 1))) λb m=>Co (m.testBit 0=true) 12 (.inl (.mk 6 s [] [b],m/2)))
 else if k=9 then mf (t.ty g).2 (pbind (KS (sub 0 g hs) 4) λa m=>Co ((t.ty g).1.lj a.dM=false) 7 (mf (l9 (a.aoq.getD 0 oE) t).2 (.inl ((l9 (a.aoq.getD 0 oE) t).1,m|||xb t))))
 else if k=13 then mf (t.ty g).2 (pbind (KS (sub 0 g hs) 6) λa m=>Co ((t.ty g).1.lj a.dM=false) 7 (mf (l9 (a.aoq.getD 0 oE) t).2 (.inl ((l9 (a.aoq.getD 0 oE) t).1,m))))
 else if k=10 then mf (F.zC g) (Co (F.aop≠5) 10 (mf (t.ty g).2 (Co ((t.ty g).1.lj F.dM=false) 7 (pbind (GR (sub 0 g hs) (F.aoq.getD 0 oE) t) λ_ m=>.inl (F,m|||xb t)))))
 else if k=14 then mf (F.zC g) (Co (F.aop≠7) 10 (mf (t.ty g).2 (Co ((t.ty g).1.lj F.dM=false) 7 (pbind (GR (sub 0 g hs) (F.aoq.getD 0 oE) t) λ_ m=>.inl (F,m)))))
 else if k=11 then pbind (KS (sub 0 g hs) 5) λa m=>Co (16<g.length+1\/16<hs.length+1) 3 (pbind (sub 1 (g++[a.dM]) (hs.map (Fm.up 0 1)++[a.aoq.getD 0 oE])) λb n=>mf (yz b).2 (.inl ((yz b).1,m|||n/2)))
 else if k=15 then pbind (KS (sub 0 g hs) 7) λa m=>Co (16<g.length+1\/16<hs.length+1) 3 (pbind (sub 1 (g++[a.dM]) (hs.map (Fm.up 0 1)++[a.aoq.getD 0 oE])) λb n=>mf (yz b).2 (Co (n.testBit 0=true) 12 (.inl ((yz b).1,m|||n/2))))
 else if k=16 then mf (F.zC (g++[.nat])) (mf (qu t g 1) (pbind (GR (sub 0 g hs) F NN) λ_ m=>Co (16<g.length+1\/16<hs.length+1) 3 (
  pbind (GR (sub 1 (g++[.nat]) (hs.map (Fm.up 0 1)++[F])) (F.up 1 1) (Ut v0)) λ_ n=>mf (l9 F t).2 (.inl ((l9 F t).1,(xb t|||m)|||n/2)))))
 else if k=17 then mf (F.zC (g++[.uK])) (mf (qu t g 2) (pbind (GR (sub 0 g hs) F (.mk 7 0 .z [])) λ_ m=>Co (16<g.length+2\/16<hs.length+1) 3 (
  pbind (GR (sub 1 (g++[.nat]++[.uK]) (hs.map (Fm.up 0 2)++[F.up 1 1])) (F.up 1 2) (.mk 8 0 .z [v1,v0])) λ_ n=>mf (l9 F t).2 (.inl ((l9 F t).1,(xb t|||m)|||n/4)))))
 else if k=18 then mf (qu t g 1) (.inl (.mk 1 .z [t,t] [],0))
 else if k=19 then mf (F.zC (g++[.nat])) (pbind (KS (sub 0 g hs) 1) λa _=>pbind (GR (sub 1 g hs) F (a.ek.getD 0 Tm.z)) λ_ n=>mf (l9 F (a.ek.getD 1 Tm.z)).2 (.inl ((l9 F (a.ek.getD 1 Tm.z)).1,n)))
 else pbind (KS (sub 0 g hs) 4) λa m=>Co ((a.aoq.getD 0 oE).aop≠5) 10 (Co ((Ty.fn a.dM (a.aoq.getD 0 oE).dM).err≠0) 4 (Co ((l9 (((a.aoq.getD 0 oE).aoq.getD 0 oE).up 2 1) (ef v1 v0)).2≠0) 4 (.inl (.mk 5 (Ty.fn a.dM (a.aoq.getD 0 oE).dM) [] [.mk 4 a.dM [] [(l9 (((a.aoq.getD 0 oE).aoq.getD 0 oE).up 2 1) (ef v1 v0)).1]],m))))
mutual
noncomputable def Pf.inf (L:List Fm):Pf->List Ty->List Fm->PR
 |.mk k i s ts fs l,g,hs=>vO (CA L k i s ts fs (Pf.Hl L l) g hs)
noncomputable def Pf.Hl (L:List Fm):List Pf->Nat->List Ty->List Fm->PR
 |[],_,_,_=>.inr 2|p::_,0,g,hs=>p.inf L g hs|_::l,n+1,g,hs=>Pf.Hl L l n g hs
end
def IRs(g:List Ty)(s:PR)(r:Option (tk×Int)):Prop:=
 (∃e,e≠0/\s=.inr e/\r=some (⟨oE,[]⟩,e))\/∃(f:Fm) (m:Nat) (l:List Int),s=.inl (f,m)/\r=some (⟨f,l⟩,0)/\Us l m/\Hg g f
def yV(g:List Ty)(s:PR)(r:Option (Fm×List Int×Int)):Prop:=
 (∃e f l,e≠0/\s=.inr e/\r=some (f,l,e))\/∃(f:Fm) (m:Nat) (l:List Int),s=.inl (f,m)/\r=some (f,l,0)/\Us l m/\jy g f/\f.aor<=15000000
theorem yV.no{g:List Ty}{s:PR}{r:Option (Fm×List Int×Int)}{e:Int}{f:Fm}{l:List Int}(he:e≠0)(a:s=.inr e)(b:r=some (f,l,e)):yV g s r:=.inl ⟨e,f,l,he,a,b⟩
def yV.yes{g:List Ty}{s:PR}{r:Option (Fm×List Int×Int)}{f:Fm}{m:Nat}{l:List Int}(a:s=.inl (f,m))(b:r=some (f,l,0))(c:Us l m)(d:jy g f)(h:f.aor<=15000000):yV g s r:=.inr ⟨f,m,l,a,b,c,d,h⟩
def yV.infer{g:List Ty}(hg:g.length<=16){s:PR}{r:Option (Fm×List Int×Int)}(h:yV g s r):IRs g (vO s) (TF r):=by
 rcases h with⟨e,f,l,he,rfl,rfl⟩|⟨f,m,l,rfl,rfl,hu,b,hn⟩
 .refine .inl ⟨e,he,rfl,?_⟩;unfold TF;rw[gw,dO (by rw[eW];exact he)];rfl
 .have c:=b.ok;have hw:=f.kQ c;have d:vO (.inl (f,m))=if f.err=0 then .inl (f,if f.has then m else 0)else .inr 4:=rfl;unfold TF;rw[gw];simp only[dY];rw[dK aal,iz VW,dI]
  by_cases a:f.err=0
  .rw[dK (by rw[eW];simp[a]),yk _ VW,d,dO a];rw[dK (show¬(f.err≠0) by simpa using a),dP];cases f.has with
   |true=>exact .inr ⟨f,m,l,rfl,rfl,hu,⟨a,b⟩⟩|false=>exact .inr ⟨f,0,[],rfl,rfl,.nil,⟨a,b⟩⟩
  .rw[dO (by rw[eW];exact a),d,dK a];exact .inl ⟨4,aal,rfl,rfl⟩
def tA(L:List Fm)(P:Pf)(N:Nat):Prop:=∀n',N<=n'->∀c,PG L c->IRs c.aot (P.inf L c.aot c.aow) (eS n' c P)
def Df{f:Fm}{m:Nat}{k:Int}(h:f.aop=k):KS (.inl (f,m)) k=.inl (f,m):=by grind[KS,iP]
def af0{f:Fm}{m:Nat}{k:Int}(h:f.aop≠k):KS (.inl (f,m)) k=.inr 10:=by grind[KS,iP]
def As{g:List Ty}{s:PR}{r:Option (tk×Int)}(h:IRs g s r)(k:Int):(∃e,e≠0/\KS s k=.inr e/\((r=some (⟨oE,[]⟩,e))\/∃f l m,r=some (⟨f,l⟩,0)/\f.aop≠k/\e=10/\Us l m))\/∃(f:Fm) (m:Nat) (l:List Int),KS s k=.inl (f,m)/\r=some (⟨f,l⟩,0)/\Us l m/\Hg g f/\f.aop=k:=by
 rcases h with⟨e,he,a,b⟩|⟨f,m,l,a,b,hu,d⟩
 .exact .inl ⟨e,he,by rw[a];rfl,.inl b⟩
 .by_cases c:f.aop=k
  .exact .inr ⟨f,m,l,by rw[a,Df c],b,hu,d,c⟩
  .exact .inl ⟨10,aal,by rw[a,af0 c],.inr ⟨f,l,m,b,c,rfl,hu⟩⟩
def Oo{a b:Fm}(d:a.wt<=1000000000)(f:b.wt<=1000000000):k4 a b=some (B2 a b):=by
 obtain⟨c,h⟩:=EC d f;unfold B2;rw[h];rfl
structure E4 (g:List Ty) (F:Fm) (t:Tm):Prop where
 fe:F.err=0
 te:t.err=0
 ty:∃s,jy (g++[s]) F/\eg g t s
theorem E4.put{g:List Ty}{F:Fm}{t:Tm}(h:E4 g F t):jy g (Fm.gP 0 F t):=by
 obtain⟨s,a,b⟩:=h.ty;exact a.put b
def E4.both{g:List Ty}{F:Fm}{t:Tm}(h:E4 g F t)(hg:g.length<=100):m4 F t=some (l9 F t):=by
 obtain⟨s,a,b⟩:=h.ty;obtain⟨_,a2⟩:=Fm.iK h.fe;obtain⟨_,f⟩:=Tm.iK h.te;have c:F.aov 536870912=true:=a.aov _ abv;have d:t.aov 536870912=true:=b.aov _ VW;unfold m4;rw[I4 h.fe h.te c d h.put.ok];rfl
theorem rX(F:Fm)(t:Tm):l9 F t=(oE,4)\/(Fm.gP 0 F t).aor<=4096/\l9 F t=(Fm.gP 0 F t,0):=by
 unfold l9
 split
 .exact .inl rfl
 .grind
def M6{g:List Ty}(hg:g.length<=16){s:PR}{n':Nat}{P:Pf}{c:dT}(h:IRs g s (eS n' c P)){F:Fm}{t:Tm}(k:E4 g F t):(∃e l m,e≠0/\GR s F t=.inr e/\gd (n'+1) c P F t=some (l,e)/\Us l m)\/∃(f:Fm) (m:Nat) (l:List Int),GR s F t=.inl (f,m)/\gd (n'+1) c P F t=some (l,0)/\Us l m:=by
 have k2:=k.both VW;rcases h with⟨e,he,i,j⟩|⟨f,m,l,i,j,hu,n⟩
 .refine .inl ⟨e,[],0,he,by rw[i];rfl,?_,.nil⟩;rw[gd,j,dP,dO (by rw[eW];exact he)]
 .rcases rX F t with d|⟨hn,d⟩
  .rw[d] at k2;refine .inl ⟨4,[],0,aal,?_,?_,.nil⟩
   .rw[i];unfold GR;rw[iP,d];rfl
   .rw[gd,j,dP,dK aal,k2,dP,dO aal]
  .rw[d] at k2;have v:=Fm.kQ _ k.put.ok;have w:=Fm.kQ _ n.ok;have o:=n.aor;have q:=Oo (a:=Fm.gP 0 F t) (b:=f) VW VW
   have r:GR s F t=mf (B2 (Fm.gP 0 F t) f) (.inl (f,m)):=by rw[i];unfold GR;rw[iP,d,iv rfl]
   have u:gd (n'+1) c P F t=some (l,B2 (Fm.gP 0 F t) f):=by
    rw[gd,j,dP,dK aal,k2,dP,dK aal,q,dI]
   rw[r,u]
   by_cases hm:B2 (Fm.gP 0 F t) f=0
   .rw[iv hm,hm];exact .inr ⟨f,m,l,rfl,rfl,hu⟩
   .rw[pY hm];exact .inl ⟨_,_,m,hm,rfl,rfl,hu⟩
theorem H8{g:List Ty}(h:jf g)(hg:g.length<=16):xP g=0:=by
 unfold xP;rw[dK VW]
 induction g with
 |nil=>rfl|cons s g ih=>
  have a:=h s abm;simp only[pP,fC];rw[dO a];exact ih (λx b=>h x (by simp[b])) (by simp at hg;omega)
def J6{g:List Ty}(a:jf g)(hg:g.length<=17){F:Fm}(hF:F.err=0):mu g F=some (F.zC g)/\(g.length<=16->lL g F=some (F.zC g)):=by
 obtain⟨a1,a2⟩:=Fm.iK hF;have hw:=F.kQ a1;refine⟨?_,λb=>?_⟩
 .unfold mu;rw[iz VW,hF,dI,dK aal,AU F a1 FU (by rw[fl];omega) g a VW a2];rfl
 .rw[vK VW VW (λt c=>by have:=fI (a t c);omega)];unfold MM
  grind[H8]
def xf{g:List Ty}(a:jf g)(hg:g.length<=16){t:Tm}(b:t.err=0):j4 g t=some (t.ty g):=by
 obtain⟨a1,a2⟩:=Tm.iK b;unfold j4;rw[tx g VW (λt b=>by have:=fI (a t b);omega),H8 a hg,Az a1 a2 a VW];rfl
def has_both{g:List Ty}(b:jf g)(hg:g.length<=16){c:dT}(a:c.aot=g){t:Tm}(d:t.err=0)(k:Int):iY c t k=some (qu t g k):=by
 unfold iY qu;rw[a,xf b hg d]
 grind[dP,eW]
def MD{g:List Ty}(hg:g.length<=16){t:Tm}{s:Ty}(h:eg g t s)(b:t.err=0):∃l,mS t=some l/\Us l (xb t):=by
 obtain⟨a1,a2⟩:=Tm.iK b;have a:∀j:Int,32<=j->t.aox j=0:=λj o=>h.Dp j VW;obtain⟨l,d,f,c⟩:=aek b (h.aov _ VW) a;refine⟨l,d,⟨?_,λx k=>((c x).1 k).1,f,λi=>?_⟩⟩
 .exact Nat.lt_pow_two_of_testBit (n:=32) _ λi hi=>by rw[<-ags,Mt];omega
 .rw[c,Mt]
  grind
def nz:¬eR 0 0=true:=aal
def Pf.nQ(L:List Fm)(k i:Int)(s:Ty)(ts:List Tm)(fs:List Fm)(l:List Pf)(g:List Ty)(hs:List Fm):(Pf.mk k i s ts fs l).inf L g hs=vO (CA L k i s ts fs (Pf.Hl L l) g hs):=by rw[Pf.inf]
def tA.of{L:List Fm}{k i:Int}{s:Ty}{ts:List Tm}{fs:List Fm}{l:List Pf}{N:Nat}
  (H:∀n',N<=n'->∀c,PG L c->yV c.aot (CA L k i s ts fs (Pf.Hl L l) c.aot c.aow) (fR (n'+4) c (.mk k i s ts fs l))):tA L (.mk k i s ts fs l) (N+5):=by
 intro n' b c h;obtain⟨a,rfl⟩:∃a,n'=a+5:=⟨n'-5,VW⟩;exact yV.infer h.pl.nv (H a VW c h)
def ajq(n:Nat)(c:dT)(i:Int):fR (n+1) c (.mk 1 i .z [] [] [])=if(qz i (eE c.aow)) then some (oE,[],8)else dH (dW c.aow (fD .i64 (fD .i64 (eE c.aow) 1) i)) λa=>some (a,[],0):=by rw[fR];rfl
def Vr(L:List Fm)(i:Int)(g:List Ty)(hs:List Fm):CA L 1 i .z [] [] (Pf.Hl L []) g hs=Co ((hs.length:Int)<=i) 8 (.inl (hs.getD (hs.length-1-i.toNat) oE,0)):=rfl
def ZG{L:List Fm}{i:Int}(hi:0<=i):tA L (.mk 1 i .z [] [] []) 5:=by
 refine tA.of (N:=0) λn' _ c h=>?_;rw[ajq,Vr]
 by_cases d:(c.aow.length:Int)<=i
 .grind[vl,dP,qz,eE,ju,fV,yV.no]
 .have j:=h.pl.nh
  have b:c.aow.length-1-i.toNat<c.aow.length:=VW
  rw[ox d,dK (show¬(qz i (eE c.aow)=true) by rw[ju,fV];exact d),fV,fF (a:=(c.aow.length:Int)) VW VW,fF VW VW,show(c.aow.length:Int)-1-i=((c.aow.length-1-i.toNat:Nat):Int) by omega,gS,pE b,dI];have f:=h.aow _ (Ek b);exact yV.yes (by simp[A2,b]) rfl .nil f.ty (by have:=f.aor;omega)
def jy.Jk{g:List Ty}{f:Fm}(h:jy g f){k:Int}(d:f.aop=k)(i:k=4\/k=5\/k=6\/k=7):∃s a,f=.mk k s [] [a]/\s.err=0/\jy (g++[s]) a:=by
 cases h with
 |eq _ _=>grind[Fm.eD]|two b c j=>grind[Fm.eD]|q b hs c=>grind[Fm.eD]
def jy.Y8{g:List Ty}{f:Fm}(h:jy g f)(j:f.aop=1):∃a b,f=.mk 1 .z [a,b] []/\eg g a .nat/\eg g b .nat:=by
 cases h with
 |eq d i=>grind|two c d i=>simp_all|q c hs d=>simp_all
def Hg.sub{g a:List Ty}{k:Int}{s:Ty}{ts:List Tm}{l:List Fm}(h:Hg g (.mk k s ts l)){x:Fm}(c:x∈l)(b:jy a x):Hg a x:=by
 have d:=h.aor;rw[Fm.dL] at d;have:=eu Fm.aor c;refine⟨?_,b⟩;unfold Fm.err;rw[dO b.ok,dK VW]
def ain(n:Nat)(c:dT)(s:Ty)(a:Pf):fR (n+2) c (.mk 8 0 s [] [] [a])=fm (dH (gb c 1 0) λo=>if(eR o 0) then some (oE,[],o)else dH (gu c [s]) λj=>dR (eS n j a) λb d=>if(eR d 0) then some (oE,[],d)else dH (vg 4 s b.eh) λk=>dH (iV b.lx 1) λl=>some (k,l,0)) λf h i=>some (f,h,i):=by
 rw[fR];rw[pT];rfl
def FQ(L:List Fm)(s:Ty)(a:Pf)(g:List Ty)(hs:List Fm):CA L 8 0 s [] [] (Pf.Hl L [a]) g hs=Co (16<g.length+1) 3 (pbind (a.inf L (g++[s]) (hs.map (Fm.up 0 1))) λb m=>.inl (.mk 4 s [] [b],m/2)):=rfl
def Wp{L:List Fm}{s:Ty}(hs:s.err=0){a:Pf}{N:Nat}(o:tA L a N):tA L (.mk 8 0 s [] [] [a]) (N+5):=by
 refine tA.of λn' r c h=>?_;rw[show n'+4=n'+2+2 from rfl,ain,FQ];rcases h.room (v:=1) (k:=0) VW VW with⟨b,n,_⟩|⟨b,n⟩
 .have b:gb c 1 0=some 0:=b;rw[b,dI,dK nz,ox VW];obtain⟨t,u,w,x,y⟩:=h.below hs n;rw[u,dI];have hi:=o (n'+2) VW t w;rw[x,y] at hi;rcases hi with⟨e,he,d,i⟩|⟨f,m,l,d,i,hu,j⟩
  .rw[d,i,dP,dO (by rw[eW];exact he)];exact yV.no he rfl rfl
  .have A:=j.aor;have B:=f.kQ j.ok;have C:=fI hs;obtain⟨u1,u3⟩:=hu.out (by have:=hu.len;omega) (k:=1) VW;rw[d,i,dP,dK nz,iP];simp only[];rw[am_ VW VW,dI,show(1:Int)=((1:Nat):Int)from rfl,u1];refine yV.yes rfl rfl u3 (.q (.inl rfl) hs j.ty) ?_;rw[Fm.dL];simp only[ee];omega
 .have b:gb c 1 0=some 3:=b;have D:=h.pl.nh;rw[b,dI,dO aal,vl VW];exact yV.no aal rfl rfl
theorem Sv(a b:Ty):a.lj b=b.lj a:=by grind[Ty.lq]
def Ix{a b:Ty}(c:a.err=0)(d:b.err=0):fO FU b a=some (a.lj b):=by
 have f:=fI c;have h:=fI d
 grind[dI,im,Sv]
def ajm(n:Nat)(c:dT)(t:Tm)(a:Pf):fR (n+2) c (.mk 9 0 .z [t] [] [a])=fm (dR (j4 c.aot t) λu s=>if(eR s 0) then some (oE,[],s)else dR (eS n c a) λb d=>if(eR d 0) then some (oE,[],d)else dH (mS t) λj=>dH (iD b.lx j) λk=>if(eR b.eh.aop 4) then some (oE,[],10)else dH (fO FU b.eh.dM u) λl=>if l then dH (dW b.eh.aoq 0) λo=>dR (m4 o t) λq r=>some (q,k,r)else some (oE,[],7)) λf h i=>some (f,h,i):=by
 rw[fR];rw[qM];rfl
def VI(L:List Fm)(t:Tm)(a:Pf)(g:List Ty)(hs:List Fm):CA L 9 0 .z [t] [] (Pf.Hl L [a]) g hs=mf (t.ty g).2 (pbind (KS (a.inf L g hs) 4) λa m=>Co ((t.ty g).1.lj a.dM=false) 7 (mf (l9 (a.aoq.getD 0 oE) t).2 (.inl ((l9 (a.aoq.getD 0 oE) t).1,m|||xb t)))):=rfl
def A_{t:Tm}(a:t.err=0){g:List Ty}(b:jf g):(∃e,e≠0/\(t.ty g).2=e/\∃z,t.ty g=(z,e))\/∃s,t.ty g=(s,0)/\eg g t s/\s.err=0:=by
 obtain⟨s,e,c⟩:∃s e,t.ty g=(s,e):=⟨_,_,rfl⟩
 by_cases he:e=0
 .subst he;obtain⟨d,f⟩:=rz _ t (gY _) (Tm.iK a).1 g b s c
  grind
 .grind
def Yl{L:List Fm}{t:Tm}(d:t.err=0){a:Pf}{N:Nat}(C:tA L a N):tA L (.mk 9 0 .z [t] [] [a]) (N+5):=by
 refine tA.of λn' D c h=>?_;have j:=h.pl.nv;rw[show n'+4=n'+2+2 from rfl,ajm,VI,xf h.pl.ctx j d];rcases A_ d h.pl.ctx with⟨e,he,q1,z,F⟩|⟨s,q1,k,hs⟩
 .rw[F,dP,dO (by rw[eW];exact he),pY he];exact yV.no he rfl rfl
 .obtain⟨H,f2,f3⟩:=MD j k d;rw[q1,dP,dK nz,iv rfl];rcases As (C (n'+2) VW c h) 4 with⟨e,he,n,i⟩|⟨f,m,l,n,i,hu,w,o⟩
  .rw[n];rcases i with i|⟨f,l,m,i,o,rfl,hu⟩
   .rw[i,dP,dO (by rw[eW];exact he)];exact yV.no he rfl rfl
   .obtain⟨q,u1,_⟩:=hu.union f3 (by have:=hu.len;omega) (by have:=f3.len;omega);rw[i,dP,dK nz,f2,dI,u1,dI,dO (by rw[eW];exact o)];exact yV.no he rfl rfl
  .obtain⟨y,x,rfl,r,A⟩:=w.ty.Jk o (.inl rfl);have u:=w.sub (x:=x) abm A;obtain⟨q,u1,u2,u3,_⟩:=hu.union f3 (by have:=hu.len;omega) (by have:=f3.len;omega);rw[n,i,dP,dK nz,f2,dI,iP];simp only[Fm.eD,Fm.fx,Fm.ey,eO,jW,dI,HB];rw[u1,dI,dK (show¬eR 4 4=true by decide),Ix hs r,dI]
   by_cases b:s.lj y=true
   .have:=(Ty.lq s y).1 b;subst this;have B:E4 c.aot x t:=⟨u.err,d,s,A,k⟩;rw[ox (by rw[b];decide),dO b,B.both VW];rcases rX x t with v|⟨G,v⟩
    .rw[v,dP,pY aal];exact yV.no aal rfl rfl
    .rw[v,dP,iv rfl];exact yV.yes (f:=Fm.gP 0 x t) rfl rfl u3 B.put VW
   .rw[vl (by simpa using b),dK b];exact yV.no aal rfl rfl
def ahM(n:Nat)(c:dT)(t:Tm)(F:Fm)(a:Pf):fR (n+2) c (.mk 10 0 .z [t] [F] [a])=fm (dH (lL c.aot F) λb=>if(eR b 0) then some (oE,[],b)else if(eR F.aop 5) then some (oE,[],10)else dR (j4 c.aot t) λj d=>if(eR d 0) then some (oE,[],d)else dH (fO FU F.dM j) λk=>if k then dH (dW F.aoq 0) λl=>dR (gd n c a l t) λo q=>dH (mS t) λr=>dH (iD o r) λs=>some (F,s,q)else some (oE,[],7)) λf h i=>some (f,h,i):=by
 rw[fR];rw[qE];rfl
def OJ(L:List Fm)(t:Tm)(F:Fm)(a:Pf)(g:List Ty)(hs:List Fm):CA L 10 0 .z [t] [F] (Pf.Hl L [a]) g hs=mf (F.zC g) (Co (F.aop≠5) 10 (mf (t.ty g).2 (Co ((t.ty g).1.lj F.dM=false) 7 (pbind (GR (a.inf L g hs) (F.aoq.getD 0 oE) t) λ_ m=>.inl (F,m|||xb t))))):=rfl
def Xa{L:List Fm}{t:Tm}(i:t.err=0){F:Fm}(hF:F.err=0){a:Pf}{N:Nat}(D:tA L a N):tA L (.mk 10 0 .z [t] [F] [a]) (N+5):=by
 refine tA.of λn' G c h=>?_;have j:=h.pl.nv;obtain⟨_,t2⟩:=J6 h.pl.ctx VW hF;have H:=(Fm.iK hF).2;rw[show n'+4=n'+2+2 from rfl,ahM,OJ,xf h.pl.ctx j i,t2 j,dI]
 by_cases k:F.zC c.aot=0
 .have r:¬eR (F.zC c.aot) 0=true:=by rw[eW];simpa using k
  rw[dK r,iv k];have b:=BP F (Fm.iK hF).1 c.aot h.pl.ctx k
  by_cases n:F.aop=5
  .have r:¬eR F.aop 5=true:=by rw[eW];simpa using n
   rw[dK r,ox (by simpa using n)];rcases A_ i h.pl.ctx with⟨e,he,q1,z,I⟩|⟨s,q1,o,hs⟩
   .rw[I,dP,dO (by rw[eW];exact he),pY he];exact yV.no he rfl rfl
   .obtain⟨u,x,rfl,v,C⟩:=b.Jk n (.inr (.inl rfl));have w:Hg c.aot (.mk 5 u [] [x]):=⟨hF,b⟩;have y:=w.sub (x:=x) abm C;obtain⟨K,f2,f3⟩:=MD j o i;rw[q1,dP,dK nz,iv rfl];simp only[Fm.eD,Fm.fx,Fm.ey,eO,jW,dI,HB];rw[Ix hs v,dI]
    by_cases d:s.lj u=true
    .have:=(Ty.lq s u).1 d;subst this;have J:E4 c.aot x t:=⟨y.err,i,s,C,o⟩;rw[ox (by rw[d];decide),dO d];rcases M6 j (D (n'+1) VW c h) J with⟨e,l,m,he,A,B,hu⟩|⟨f,m,l,A,B,hu⟩
     .obtain⟨q,u1,_⟩:=hu.union f3 (by have:=hu.len;omega) (by have:=f3.len;omega);rw[A,B,dP,f2,dI,u1];exact yV.no he rfl rfl
     .obtain⟨q,u1,u2,u3,_⟩:=hu.union f3 (by have:=hu.len;omega) (by have:=f3.len;omega);rw[A,B,dP,f2,dI,iP];rw[u1];exact yV.yes rfl rfl u3 b VW
    .rw[vl (by simpa using d),dK d];exact yV.no aal rfl rfl
  .rw[dO (by rw[eW];exact n),vl n];exact yV.no aal rfl rfl
 .rw[dO (by rw[eW];exact k),pY k];exact yV.no k rfl rfl
def Zw(k:Fm->Option (Fm×List Int×Int))(f:Fm):Option (Fm×List Int×Int):=
 dH (qT FU f 0) λc=>if c then dR (np FU f) λa b=>if(eR b 0) then some (oE,[],b)else dH (qT FU a 0) λd=>if d then some (oE,[],6)else k (.mk a.aop (.mk a.dM.aop a.dM.aoq) a.ek a.aoq)else k (.mk f.aop (.mk f.dM.aop f.dM.aoq) f.ek f.aoq)
def Yu(n:Nat)(c:dT)(a b:Pf):fR (n+2) c (.mk 11 0 .z [] [] [a,b])=fm (dR (eS n c a) λd h=>if(eR h 0) then some (oE,[],h)else if(eR d.eh.aop 5) then some (oE,[],10)else dH (gb c 1 1) λi=>if(eR i 0) then some (oE,[],i)else dH (gu c [d.eh.dM]) λu=>dH (dW d.eh.aoq 0) λv=>dH (ia u v) λw=>dR (eS n w b) λj k=>if(eR k 0) then some (oE,[],k)else Zw (λf=>dH (mK FU f 1 (-1)) λl=>dH (iV j.lx 1) λo=>dH (iD d.lx o) λq=>some (l,q,0)) j.eh) λr s t=>some (r,s,t):=by
 rw[fR];rw[oS];rfl
def Ei(L:List Fm)(a b:Pf)(g:List Ty)(hs:List Fm):CA L 11 0 .z [] [] (Pf.Hl L [a,b]) g hs=pbind (KS (a.inf L g hs) 5) λa m=>Co (16<g.length+1\/16<hs.length+1) 3 (pbind (b.inf L (g++[a.dM]) (hs.map (Fm.up 0 1)++[a.aoq.getD 0 oE])) λb n=>mf (yz b).2 (.inl ((yz b).1,m|||n/2))):=rfl
def aaw{g:List Ty}{s:Ty}{f:Fm}(h:Hg (g++[s]) f)(hg:g.length<=1000)(k:Fm->Option (Fm×List Int×Int))(k':Fm->Option (Fm×List Int×Int))(l:∀x,x.aox 0=0->x.aor<=4096*4096->x.aov 1000000000000=true->k x=k' (x.up 1 (-1))):Zw k f=if(yz f).2=0 then k' (yz f).1 else some (oE,[],(yz f).2):=by
 have hn:=h.aor;have o:f.aov 1000000000000=true:=h.ty.aov _ abv;unfold Zw;rw[EN FU f 0 (by rw[fl];omega) VW VW VW,dI,Ty.hR,Fm.hR]
 by_cases j:f.aox 0=0
 .have hw:yz f=(f.up 1 (-1),0):=by unfold yz;rw[dO j]
  grind
 .rw[dO (show decide (0<f.aox 0)=true by simp;omega),HM FU f (by rw[fl];omega) VW (Yn.of f hn h.ok (h.ty.aov _ abv))];obtain⟨a,b,d⟩:∃a b,f.tX 0=(a,b):=⟨_,_,rfl⟩
  have hw:yz f=if b≠0 then(oE,b)else if a.aox 0≠0 then(oE,6)else(a.up 1 (-1),0):=by unfold yz;rw[dK j,d]
  rw[d];simp only[]
  by_cases he:b=0
  .subst he;have c:=aaM h.ty 0 abv hn (by rw[d]);rw[d] at c;obtain⟨_,a2,a3⟩:=c;have a2:jy (g++[s]) a:=a2;have a3:a.aor<=3000*f.aor:=a3;rw[dK aal] at hw;rw[dO rfl,dP,dK nz,EN FU a 0 (by rw[fl];omega) VW VW VW,dI,Ty.hR,Fm.hR]
   by_cases i:a.aox 0=0
   .rw[dK (by simpa using i)] at hw;rw[hw,dK (show¬(decide (0<a.aox 0)=true) by simp;omega)];exact(l a i VW (a2.aov _ abv)).trans (dO rfl).symm
   .rw[dO i] at hw;rw[hw,dO (show decide (0<a.aox 0)=true by simp;omega)];rfl
  .rw[dO he] at hw
   have n:eR b 0=true:=by rw[eW];exact he
   rw[hw,dK he,dP,dO n,dK he]
def Qw{L:List Fm}{a b:Pf}{N:Nat}(G:tA L a N)(H:tA L b N):tA L (.mk 11 0 .z [] [] [a,b]) (N+5):=by
 refine tA.of λn' I c h=>?_;have J:=h.pl.nv;rw[show n'+4=n'+2+2 from rfl,Yu,Ei];rcases As (G (n'+2) VW c h) 5 with⟨e,he,i,d⟩|⟨f,m,l,i,d,hu,A,t⟩
 .rw[i];rcases d with d|⟨f,l,m,d,t,rfl,_⟩
  .rw[d,dP,dO (by rw[eW];exact he)];exact yV.no he rfl rfl
  .rw[d,dP,dK nz,dO (by rw[eW];exact t)];exact yV.no he rfl rfl
 .obtain⟨s,x,rfl,hs,K⟩:=A.ty.Jk t (.inr (.inl rfl));have u:=A.sub (x:=x) abm K;rw[i,d,dP,dK nz,dK abm,iP];simp only[Fm.fx,Fm.ey,eO,jW,dI,HB];rcases h.room (v:=1) (k:=1) VW VW with⟨j,B,M⟩|⟨j,B⟩
  .have j:gb c 1 1=some 0:=j;rw[j,dI,dK nz,ox VW];obtain⟨W,O,P,C,D⟩:=h.below hs B;obtain⟨Q,R,S,T,U⟩:=P.with (f:=x) (by rw[C];exact u) (by rw[D];simpa using M);rw[O,dI,R,dI];have hi:=H (n'+2) VW Q S;rw[T,U,C,D] at hi;rcases hi with⟨e,he,i,d⟩|⟨V,X,F,i,d,o,r⟩
   .rw[i,d,dP,dO (by rw[eW];exact he)];exact yV.no he rfl rfl
   .obtain⟨u1,u3⟩:=o.out (by have:=o.len;omega) (k:=1) VW;have u1:iV F 1=some (Bi ((1:Nat):Int) F):=u1;obtain⟨q,v1,v2,v3,_⟩:=hu.union u3 (by have:=hu.len;omega) (by have:=u3.len;omega);rw[i,d,dP,dK nz,iP];simp only[]
    rw[aaw r VW _ (λy=>some (y,q,0)) (λy Y Z y3=>by
     rw[OK FU y 1 (by rw[fl];omega) VW VW VW y3,dI,u1,dI,v1,dI])]
    obtain⟨w,e,hw⟩:∃w e,yz V=(w,e):=⟨_,_,rfl⟩;rw[hw]
    by_cases he:e=0
    .subst he;have n:=SM r VW hs (by rw[hw]);rw[hw] at n;rw[dO rfl,iv rfl];exact yV.yes rfl rfl v3 n.1 (by have:=n.2;omega)
    .rw[dK he,pY he];exact yV.no he rfl rfl
  .have j:gb c 1 1=some 3:=j;rw[j,dI,dO aal,vl VW];exact yV.no aal rfl rfl
def jf.nat{g:List Ty}(h:jf g):jf (g++[.nat]):=h.app Ty.gC
def VF{g:List Ty}(d:jf g){t:Tm}(f:t.err=0){s:Ty}(hs:s=.nat\/s=.uK)(h:qu t g s.aop=0):eg g t s:=by
 rcases A_ f d with⟨e,he,q1,z,j⟩|⟨b,q1,i,a⟩
 .unfold qu at h
  grind
 .unfold qu at h;rw[q1] at h
  by_cases c:b.aop=s.aop
  .have:b=s:=by
    rcases hs with rfl|rfl
    .exact(vY a).1 c
    .exact(ES a).1 c
   rwa [<-this]
  .grind
def Tm.jx{t:Tm}(h:t.ok=true)(hn:t.aor<=4096):t.err=0:=by grind[Tm.err]
def agY(n:Nat)(c:dT)(t:Tm):fR (n+1) c (.mk 18 0 .z [t] [] [])=dH (ye t t) λa=>dH (iY c t 1) λb=>some (a,[],b):=by rw[fR];rfl
def O0(L:List Fm)(t:Tm)(g:List Ty)(hs:List Fm):CA L 18 0 .z [t] [] (Pf.Hl L []) g hs=mf (qu t g 1) (.inl (.mk 1 .z [t,t] [],0)):=rfl
def V9{L:List Fm}{t:Tm}(a:t.err=0):tA L (.mk 18 0 .z [t] [] []) 5:=by
 refine tA.of (N:=0) λn' _ c h=>?_;have f:=h.pl.nv;have i:=h.pl.ctx;obtain⟨a1,a2⟩:=Tm.iK a;have hw:=t.kQ a1;rw[show n'+4=n'+3+1 from rfl,agY,O0,has_both i f rfl a 1,ajX VW VW,dI,dI]
 by_cases b:qu t c.aot 1=0
 .have d:eg c.aot t .nat:=VF i a (.inl rfl) b;rw[iv b,b];refine yV.yes rfl rfl .nil (.eq d d) ?_;rw[Fm.dL];simp only[ee];omega
 .rw[pY b];exact yV.no b rfl rfl
def aey(n:Nat)(c:dT)(F:Fm)(a b:Pf):fR (n+2) c (.mk 19 0 .z [] [F] [a,b])=fm (gq (fM c.aot [.nat])<|dH (mu (fW c.aot [.nat]) F) λf=>if(eR f 0) then some (oE,[],f)else dR (eS n c a) λd h=>if(eR h 0) then some (oE,[],h)else if(eR d.eh.aop 1) then some (oE,[],10)else dH (dW d.eh.ek 0) λs=>dR (gd n c b F s) λt i=>if(eR i 0) then some (oE,[],i)else dH (dW d.eh.ek 1) λj=>dR (m4 F j) λk l=>some (k,t,l)) λo q r=>some (o,q,r):=by
 rw[fR];rw[od];rfl
def Ig(L:List Fm)(F:Fm)(a b:Pf)(g:List Ty)(hs:List Fm):CA L 19 0 .z [] [F] (Pf.Hl L [a,b]) g hs=mf (F.zC (g++[.nat])) (pbind (KS (a.inf L g hs) 1) λa _=>pbind (GR (b.inf L g hs) F (a.ek.getD 0 Tm.z)) λ_ n=>mf (l9 F (a.ek.getD 1 Tm.z)).2 (.inl ((l9 F (a.ek.getD 1 Tm.z)).1,n))):=rfl
def TS{L:List Fm}{F:Fm}(hF:F.err=0){a b:Pf}{N:Nat}(D:tA L a N)(G:tA L b N):tA L (.mk 19 0 .z [] [F] [a,b]) (N+5):=by
 refine tA.of λn' H c h=>?_;have q:=h.pl.nv;have w:=h.pl.ctx;have I:=(Fm.iK hF).2;obtain⟨t2,_⟩:=J6 w.nat abv hF;rw[show n'+4=n'+2+2 from rfl,aey,Ig,fk abv,dU,ig,t2,dI]
 by_cases k:F.zC (c.aot++[.nat])=0
 .have A:=k;rw[<-yU (a:=_=_),<-ne_eq,<-eW] at A;rw[dK A,iv k];have i:=BP F (Fm.iK hF).1 _ w.nat k;rcases As (D (n'+2) VW c h) 1 with⟨e,he,j,d⟩|⟨f,m,l,j,d,hu,B,r⟩
  .rw[j];rcases d with d|⟨f,l,m,d,r,rfl,_⟩
   .rw[d,dP,dO (by rw[eW];exact he)];exact yV.no he rfl rfl
   .rw[d,dP,dK nz,dO (by rw[eW];exact r)];exact yV.no he rfl rfl
  .obtain⟨x,y,rfl,C,hy⟩:=B.ty.Y8 r;have n:=B.aor;rw[Fm.dL] at n;simp only[ee] at n;have s:x.err=0:=Tm.jx C.ok VW;have t:y.err=0:=Tm.jx hy.ok VW;have u:E4 c.aot F x:=⟨hF,s,.nat,i,C⟩;have o:E4 c.aot F y:=⟨hF,t,.nat,i,hy⟩;rw[j,d,dP,dK nz,dK abm,iP];simp only[Fm.ik,eO,gy,jW,nJ,dI,HB,WG];rcases M6 q (G (n'+1) VW c h) u with⟨e,l,m,he,j,d,hu⟩|⟨f,m,l,j,d,hu⟩
   .rw[j,d,dP,dO (by rw[eW];exact he)];exact yV.no he rfl rfl
   .rw[j,d,dP,dK nz,iP,o.both VW];rcases rX F y with v|⟨J,v⟩
    .rw[v,dP,pY aal];exact yV.no aal rfl rfl
    .rw[v,dP,iv rfl];exact yV.yes (f:=Fm.gP 0 F y) rfl rfl hu o.put VW
 .rw[dO (by rw[eW];exact k),pY k];exact yV.no k rfl rfl
inductive Ku:Pf->Prop
 |hyp {i}:0<=i->Ku (.mk 1 i .z [] [] [])|all {k s a}:k=8->s.err=0->Ku a->Ku (.mk k 0 s [] [] [a])|Zx {k t a}:k=9->t.err=0->Ku a->Ku (.mk k 0 .z [t] [] [a])|ex {k t F a}:k=10->t.err=0->F.err=0->Ku a->Ku (.mk k 0 .z [t] [F] [a])|opn {k a b}:k=11->Ku a->Ku b->Ku (.mk k 0 .z [] [] [a,b])|refl {t}:t.err=0->Ku (.mk 18 0 .z [t] [] [])|subst {F a b}:F.err=0->Ku a->Ku b->Ku (.mk 19 0 .z [] [F] [a,b])
mutual
def Pf.Ih:Pf->Nat
 |.mk _ _ _ _ _ l=>1+Pf.Mc l
def Pf.Mc:List Pf->Nat
 |[]=>0|p::l=>p.Ih+Pf.Mc l
end
theorem tA.mono{L:List Fm}{P:Pf}{N M:Nat}(h:tA L P N)(a:N<=M):tA L P M:=λn' b=>h n' VW
def aaW{L:List Fm}{P:Pf}(h:Ku P):tA L P (5*P.Ih):=by
 induction h with
 |hyp hi=>exact ZG hi|all b hs _ a=>
  obtain rfl:=b
  .exact(Wp hs a).mono (by simp only[Pf.Ih,Pf.Mc];omega)
 |Zx b c _ a=>
  obtain rfl:=b
  .exact(Yl c a).mono (by simp only[Pf.Ih,Pf.Mc];omega)
 |ex b c hF _ a=>
  obtain rfl:=b
  .exact(Xa c hF a).mono (by simp only[Pf.Ih,Pf.Mc];omega)
 |opn b _ _ a d=>
  obtain rfl:=b
  .exact(Qw (a.mono (Nat.le_max_left _ _)) (d.mono (Nat.le_max_right _ _))).mono (by simp only[Pf.Ih,Pf.Mc];omega)
 |refl c=>exact V9 c|subst hF _ _ a d=>exact(TS hF (a.mono (Nat.le_max_left _ _)) (d.mono (Nat.le_max_right _ _))).mono (by simp only[Pf.Ih,Pf.Mc];omega)
mutual
def Pf.aor:Pf->Nat
 |.mk _ _ _ ts fs l=>1+ee Tm.aor ts+ee Fm.aor fs+Pf.ov l
def Pf.ov:List Pf->Nat
 |[]=>0|p::l=>p.aor+Pf.ov l
end
def Pf.r7:∀l:List Pf,Pf.ov l=ee Pf.aor l
 |[]=>by rw[Pf.ov];rfl|p::l=>by rw[Pf.ov,Pf.r7 l];rfl
theorem Pf.dL(k i:Int)(s:Ty)(ts:List Tm)(fs:List Fm)(l:List Pf):(Pf.mk k i s ts fs l).aor=1+ee Tm.aor ts+ee Fm.aor fs+ee Pf.aor l:=by rw[Pf.aor,Pf.r7]
mutual
def Pf.wt:Pf->Nat
 |.mk _ _ s ts fs l=>1+s.aor+ee Tm.wt ts+ee Fm.wt fs+Pf.Un l
def Pf.Un:List Pf->Nat
 |[]=>0|p::l=>p.wt+Pf.Un l
end
def Pf.Fv:∀l:List Pf,Pf.Un l=ee Pf.wt l
 |[]=>by rw[Pf.Un];rfl|p::l=>by rw[Pf.Un,Pf.Fv l];rfl
def Pf.iE(k i:Int)(s:Ty)(ts:List Tm)(fs:List Fm)(l:List Pf):(Pf.mk k i s ts fs l).wt=1+s.aor+ee Tm.wt ts+ee Fm.wt fs+ee Pf.wt l:=by rw[Pf.wt,Pf.Fv]
def Pf.kf(p:Pf):1<=p.wt:=by cases p;rw[Pf.iE];omega
def Pf.ind{p:Pf->Prop}(h:∀k i s ts fs l,(∀t∈l,p t)->p (.mk k i s ts fs l))(t:Pf):p t:=by
 match t with
 |.mk k i s ts fs l=>exact h k i s ts fs l λx a=>Pf.ind h x
termination_by SizeOf.sizeOf t
decreasing_by
 have:=ahe a;simp only[Pf.mk.sizeOf_spec];omega
def Pf.ij(p:Pf):p.aor<=p.wt:=by
 induction p using Pf.ind with
 |h k i s ts fs l ih=>
  rw[Pf.dL,Pf.iE];have a:=kI (l:=ts) (λx _=>Tm.ij x);have b:=kI (l:=fs) (λx _=>Fm.ij x);have c:=kI (l:=l) ih;omega
def Pf.sig(k:Int):Option (Bool×Bool×Nat×Nat×Nat):=
 if k=1\/k=2 then some (true,false,0,0,0)
 else if k=3\/k=7\/k=11\/k=15 then some (false,false,0,0,2)
 else if k=4\/k=5\/k=20 then some (false,false,0,0,1)
 else if k=6 then some (false,false,0,1,1)
 else if k=8\/k=12 then some (false,true,0,0,1)
 else if k=9\/k=13 then some (false,false,1,0,1)
 else if k=10\/k=14 then some (false,false,1,1,1)
 else if k=16\/k=17 then some (false,false,1,1,2)
 else if k=18 then some (false,false,1,0,0)
 else if k=19 then some (false,false,0,1,2)
 else none
def Pf.node(k i:Int)(s:Ty)(d nf f:Nat):Bool:=
 match Pf.sig k with
 |none=>false|some (h,ty,a,b,c)=>decide (d=a)&&decide (nf=b)&&decide (f=c)&&decide (0<=i)&&(h||decide (i=0))&&(if ty then decide (s.err=0)else s.rj)
mutual
def Pf.ok:Pf->Bool
 |.mk k i s ts fs l=>Pf.node k i s ts.length fs.length l.length&&ts.all Tm.ok&&fs.all Fm.ok&&Pf.Mu l
def Pf.Mu:List Pf->Bool
 |[]=>true|p::l=>p.ok&&Pf.Mu l
end
def Pf.AS:∀l:List Pf,Pf.Mu l=l.all Pf.ok
 |[]=>by rw[Pf.Mu];rfl|p::l=>by rw[Pf.Mu,Pf.AS l];rfl
theorem Pf.gX(k i:Int)(s:Ty)(ts:List Tm)(fs:List Fm)(l:List Pf):(Pf.mk k i s ts fs l).ok=(Pf.node k i s ts.length fs.length l.length&&ts.all Tm.ok&&fs.all Fm.ok&&l.all Pf.ok):=by rw[Pf.ok,Pf.AS]
def XB(t:Tm):Bool:=decide (t.aor<=4096)
def XW(f:Fm):Bool:=decide (f.aor<=4096)
mutual
def Pf.small:Pf->Bool
 |.mk _ _ _ ts fs l=>ts.all XB&&fs.all XW&&Pf.JS l
def Pf.JS:List Pf->Bool
 |[]=>true|p::l=>p.small&&Pf.JS l
end
def Pf.MP:∀l:List Pf,Pf.JS l=l.all Pf.small
 |[]=>by rw[Pf.JS];rfl|p::l=>by rw[Pf.JS,Pf.MP l];rfl
def Pf.Ej(k i:Int)(s:Ty)(ts:List Tm)(fs:List Fm)(l:List Pf):(Pf.mk k i s ts fs l).small=(ts.all XB&&fs.all XW&&l.all Pf.small):=by rw[Pf.small,Pf.MP]
def Pf.err(p:Pf):Int:=if p.ok then(if p.small=true/\p.aor<=16384 then 0 else 4)else 2
def Py{k:Int}(h:k<1\/20<k):Pf.sig k=none:=by
 unfold Pf.sig;rw[dK VW,dK VW,dK VW,dK VW,dK VW,dK VW,dK VW,dK VW,dK VW,dK VW]
def Wo(k:Int):(Pf.sig k=none/\∃r,p5 k=some (r,false))\/∃d ty a b c r,Pf.sig k=some (d,ty,a,b,c)/\p5 k=some (r,true)/\r.aos=d/\r.typed=ty/\r.ek=((a:Nat):Int)/\r.gh=((b:Nat):Int)/\r.aoq=((c:Nat):Int):=by
 by_cases h:k<1\/20<k
 .refine .inl ⟨Py h,?_⟩;unfold p5;rw[dO (by rw[lW,sx,jA,ju];omega)];exact⟨_,rfl⟩
 .have f:k=1\/k=2\/k=3\/k=4\/k=5\/k=6\/k=7\/k=8\/k=9\/k=10\/k=11\/k=12\/k=13\/k=14\/k=15\/k=16\/k=17\/k=18\/k=19\/k=20:=VW
  refine .inr ?_;rcases f with rfl|rfl|rfl|rfl|rfl|rfl|rfl|rfl|rfl|rfl|rfl|rfl|rfl|rfl|rfl|rfl|rfl|rfl|rfl|rfl<;>exact⟨_,_,_,_,_,_,rfl,rfl,rfl,rfl,rfl,rfl,rfl⟩
def SA(k:Int):(Pf.sig k=none/\∃r,qf k=some (r,false))\/∃d ty a b c r,Pf.sig k=some (d,ty,a,b,c)/\qf k=some (r,true)/\r.aos=d/\r.p0=ty/\r.ek=((a:Nat):Int)/\r.gh=((b:Nat):Int)/\r.aoq=((c:Nat):Int):=by
 by_cases h:k<1\/20<k
 .refine .inl ⟨Py h,?_⟩;unfold qf;simp only[lW,sx,gi];rw[dK VW,dK VW,dK VW,dK VW,dK VW,dK VW,dK VW,dK VW,dK VW,dK VW,dK VW];exact⟨_,rfl⟩
 .have f:k=1\/k=2\/k=3\/k=4\/k=5\/k=6\/k=7\/k=8\/k=9\/k=10\/k=11\/k=12\/k=13\/k=14\/k=15\/k=16\/k=17\/k=18\/k=19\/k=20:=VW
  refine .inr ?_;rcases f with rfl|rfl|rfl|rfl|rfl|rfl|rfl|rfl|rfl|rfl|rfl|rfl|rfl|rfl|rfl|rfl|rfl|rfl|rfl|rfl<;>exact⟨_,_,_,_,_,_,rfl,rfl,rfl,rfl,rfl,rfl,rfl⟩
def X_{k i:Int}{s:Ty}{j nf l:Nat}(h:Pf.node k i s j nf l=true){n ty:Bool}{a b c:Nat}(hs:Pf.sig k=some (n,ty,a,b,c)):(j:Int)=a/\(nf:Int)=b/\(l:Int)=c/\0<=i/\(n=false->i=0)/\(ty=true->s.err=0)/\(ty=false->s=.mk 0 []):=by
 unfold Pf.node at h;rw[hs] at h;simp only[gJ,oU,sx] at h;obtain⟨⟨⟨⟨⟨t,u⟩,v⟩,o⟩,q⟩,d⟩:=h;refine⟨VW,VW,VW,o,λr=>q.resolve_left (by simp[r]),λf=>?_,λf=>?_⟩
 .rw[dO f] at d;simpa using d
 .rw[dK (by simp[f])] at d;exact(Ty.mB s).1 d
structure TR (d d':ec) (s:Bool) (n:Nat):Prop where
 lo:d.aor<=d'.aor
 hi:d'.aor<=d.aor+n
 eq:s=true->d'.aor=d.aor+n
 jh:d'.jh=(d.jh||!s)
def TR.trans{d c a:ec}{s f:Bool}{n n':Nat}(h:TR d c s n)(b:TR c a f n'):TR d a (s&&f) (n+n'):=by
 refine⟨by have:=h.lo;have:=b.lo;omega,by have:=h.hi;have:=b.hi;omega,λhs=>?_,?_⟩
 .rw[gJ] at hs;have:=h.eq hs.1;have:=b.eq hs.2;omega
 .rw[b.jh,h.jh,Bool.not_and,Bool.or_assoc]
def zl{α:Type}{F:Int->α->ec->Option (fp ec (Bool×ec))}(ok small:α->Bool)(sz:α->Nat):∀(l:List α) (i:Nat) (d:ec),0<=d.aor->d.aor+ee sz l<=4000000000->(∀(j:Int) (x:α) (d:ec),x∈l->0<=d.aor->d.aor+sz x<=4000000000->if ok x then∃a,F j x d=some (.next a)/\TR d a (small x) (sz x)else∃a,F j x d=some (.ret (false,a)))->if l.all ok then∃a,fa F l i d=some (.inl a)/\TR d a (l.all small) (ee sz l)else∃a,fa F l i d=some (.inr (false,a))
 |[],i,d,_,_,_=>⟨d,rfl,⟨VW,by simp[ee],λ_=>by simp[ee],abm⟩⟩|x::l,i,d,o,q,h=>by
  simp only[ee] at q;have b:=h i x d abm o VW;rw[CW]
  by_cases c:ok x=true
  .rw[dO c] at b;obtain⟨d1,f,k⟩:=b;have ih:=zl ok small sz l (i+1) d1 (by have:=k.lo;omega) (by have:=k.hi;omega) (λj y d hy=>h j y d (by simp[hy]));rw[eV,f];simp only[dI,eQ,ee]
   by_cases n:l.all ok=true
   .rw[dO n] at ih;obtain⟨d2,r,s⟩:=ih;rw[dO (by rw[gJ];exact⟨c,n⟩)];exact⟨d2,r,k.trans s⟩
   .grind
  .rw[dK c] at b;obtain⟨d1,f⟩:=b;rw[dK (by rw[gJ];exactλh=>c h.1),eV,f];exact⟨d1,rfl⟩
def MG{d:ec}{n e:Int}(a:-1000000000000<=d.aor+n)(b:d.aor+n<=1000000000000):hX d n e=some (eR e 2,⟨d.aor+n,d.jh||eo e 4⟩):=by
 unfold hX;rw[e9 VW VW];cases d.jh<;>rfl
def Tm.E5(t:Tm):t.err=2/\t.ok=false\/t.ok=true/\XB t=true/\t.err=0\/t.ok=true/\XB t=false/\t.err=4:=by
 unfold Tm.err XB;cases h:t.ok with
 |false=>grind|true=>grind
def Fm.E5(t:Fm):t.err=2/\t.ok=false\/t.ok=true/\XW t=true/\t.err=0\/t.ok=true/\XW t=false/\t.err=4:=by
 unfold Fm.err XW;cases h:t.ok with
 |false=>grind|true=>grind
def JR{sz:Nat}{e:Int}{ok small:Bool}(c:e=2/\ok=false\/ok=true/\small=true/\e=0\/ok=true/\small=false/\e=4)(hs:sz<=1000000000){d:ec}(f:0<=d.aor)(i:d.aor+sz<=4000000000):if ok then∃b,(dR (hX d (if e=0 then(sz:Int)else 0) e) λa d179=>if a then some (.next d179)else some ((.ret (false,d179)):fp ec (Bool×ec)))=some (.next b)/\TR d b small sz else∃b,(dR (hX d (if e=0 then(sz:Int)else 0) e) λa d179=>if a then some (.next d179)else some ((.ret (false,d179)):fp ec (Bool×ec)))=some (.ret (false,b)):=by
 rcases c with⟨rfl,rfl⟩|⟨rfl,rfl,rfl⟩|⟨rfl,rfl,rfl⟩
 .exact⟨_,rfl⟩
 .rw[dO rfl,dO rfl,MG VW VW,dP,dO aal];refine⟨_,rfl,⟨?_,?_,λ_=>rfl,?_⟩⟩
  all_goals grind[eo]
 .rw[dO rfl,dK aal,MG VW VW,dP,dO aal];refine⟨_,rfl,⟨?_,?_,λh=>by(cases h),?_⟩⟩
  all_goals grind[eo]
def IW{h:Bool}{i a b c d nf f:Int}:fq true (fq (pH i 0) true (fq (eR i 0) (fq h (fq (eR d a) true (fq (eR nf b) true (eR f c))) true) (fq (eR d a) true (fq (eR nf b) true (eR f c))))) true=true↔¬(d=a/\nf=b/\f=c/\0<=i/\(h=true\/i=0)):=by
 grind[D_,lW,eR,BM,jA]
def JJ{d:Bool}{i a b c f nf h:Int}:fq true (fq (eR f a) true (fq (eR nf b) true (fq (eR h c) true (fq (pH i 0) true (fq d false (eR i 0)))))) true=true↔¬(f=a/\nf=b/\h=c/\0<=i/\(d=true\/i=0)):=by
 cases d with
 |true=>
  grind[D_,lW,jA,eW]
 |false=>grind[D_,BM,lW,jA,eW]
def X3(ty:Bool)(s:Ty):Bool:=if ty then decide (s.err=0)else s.rj
theorem HX{k i:Int}{s:Ty}{d nf f:Nat}{h ty:Bool}{a b c:Nat}(hs:Pf.sig k=some (h,ty,a,b,c)):Pf.node k i s d nf f=true↔((d:Int)=a/\(nf:Int)=b/\(f:Int)=c/\0<=i/\(h=true\/i=0))/\X3 ty s=true:=by
 grind[Pf.node,X3]
def TG(d:ec)(A s:Bool)(n:Nat)(o:Option (Bool×ec)):Prop:=(A=true->∃a,o=some (true,a)/\TR d a s n)/\(A=false->∃a,o=some (false,a))
theorem TG.no{d a:ec}{A s:Bool}{n:Nat}(h:A=false):TG d A s n (some (false,a)):=⟨λb=>(by rw[h] at b;cases b),λ_=>⟨a,rfl⟩⟩
def XA(n:Nat)(d:ec)(k i:Int)(s:Ty)(ts:List Tm)(fs:List Fm)(l:List Pf):iS (n+1) d (.mk k i s ts fs l)=(dR (p5 k) λf L=>
 if(fq L (fq (pH i 0) true (fq (eR i 0) (fq f.aos (fq (eR (eE ts) f.ek) true (fq (eR (eE fs) f.gh) true (eR (eE l) f.aoq))) true) (fq (eR (eE ts) f.ek) true (fq (eR (eE fs) f.gh) true (eR (eE l) f.aoq))))) true) then(
 some (false,d))
 else(en (λ(F:ec)=>
 gq (e_ ts)<|en (λ(M:Int) (G:Tm)=>(λ(a:ec)=>
 dR (kL G) λj o=>
 dR (hX a j o) λq d179=>
 if q then(
 some (.next d179))
 else(some (.ret (false,d179)))):Int->Tm->(ec)->(Option (fp (ec) (Bool×ec)))) λt=>
 dH (fa t ts 0 F) (fQ (λ(a:ec)=>
 gq (e_ fs)<|en (λ(J:Int) (u:Fm)=>(λ(b:ec)=>
 dR (jd u) λv w=>
 dR (hX b v w) λx d322=>
 if x then(
 some (.next d322))
 else(some (.ret (false,d322)))):Int->Fm->(ec)->(Option (fp (ec) (Bool×ec)))) λy=>
 dH (fa y fs 0 a) (fQ (λ(b:ec)=>
 gq (e_ l)<|en (λ(K:Int) (A:Pf)=>(λ(c:ec)=>
 dR (iS n c A) λB h=>
 if B then(
 some (.next h))
 else(some (.ret (false,h)))):Int->Pf->(ec)->(Option (fp (ec) (Bool×ec)))) λC=>
 dH (fa C l 0 b) (fQ (λ(c:ec)=>
 some (true,c)) (λr=>some r))) (λr=>some r))) (λr=>some r))) λD=>
 if f.typed then(
 dR (jl s) λN H=>
 if(eR H 0) then(
 some (false,(ec.mk (eH .i64 d.aor 1) d.jh)))
 else(D (ec.mk (eH .i64 d.aor 1) d.jh)))
 else(dH (oK s) λI=>
 if I then(
 D (ec.mk (eH .i64 d.aor 1) d.jh))
 else(some (false,(ec.mk (eH .i64 d.aor 1) d.jh)))))):=by
 rw[iS];rfl
def Zi:∀(n:Nat) (P:Pf) (d:ec),P.wt<=n->P.wt<=1000000000->0<=d.aor->d.aor+P.aor<=4000000000->TG d P.ok P.small P.aor (iS n d P):=by
 intro n
 induction n with
 |zero=>intro P d h;have:=P.kf;omega
 |succ n ih=>
  intro P d hn hb h0 hd;cases P with
  |mk k i s ts fs l=>
   rw[Pf.iE] at hn hb;rw[Pf.dL] at hd|-;have af:=je Tm.wt ts λt _=>t.kf;have ah:=je Fm.wt fs λt _=>t.kf;have ai:=je Pf.wt l λt _=>t.kf;have m1:=kI (l:=ts) (λx _=>Tm.ij x);have m2:=kI (l:=fs) (λx _=>Fm.ij x);have m3:=kI (l:=l) (λx _=>Pf.ij x);rw[Pf.gX,Pf.Ej,XA];rcases Wo k with⟨M,r,O⟩|⟨ix,ty,a,b,c,r,M,O,g1,g2,g3,g4,g5⟩
   .rw[O,dP,BM,dO rfl];exact TG.no (by simp[Pf.node,M])
   .rw[O,dP,g1,g2,g3,g4,g5,fV,fV,fV]
    by_cases N:(ts.length:Int)=a/\(fs.length:Int)=b/\(l.length:Int)=c/\0<=i/\(ix=true\/i=0)
    .rw[dK (λh=>IW.1 h N)]
     have v:Pf.node k i s ts.length fs.length l.length=X3 ty s:=by
      rw[L',HX M];exact⟨λh=>h.2,λh=>⟨N,h⟩⟩
     rw[v];cases f:X3 ty s with
     |false=>
      have e:∀j:ec->Option (Bool×ec),(if ty then dR (jl s) λak Q=>if(eR Q 0) then some (false,(ec.mk (eH .i64 d.aor 1) d.jh))else j (ec.mk (eH .i64 d.aor 1) d.jh)else dH (oK s) λR=>if R then j (ec.mk (eH .i64 d.aor 1) d.jh)else some (false,(ec.mk (eH .i64 d.aor 1) d.jh)))=some (false,(ec.mk (eH .i64 d.aor 1) d.jh)):=by grind[X3,eR,eW,lQ,dP,td,dI]
      refine vC (λ_=>False) (λ_ h=>h.elim) (λj _=>?_);rw[e j];exact TG.no abm
     |true=>
      refine vC (λd1=>d1.aor=d.aor+1/\d1.jh=d.jh) (λd1 o=>?_) (λj hj=>?_)
      .have t1:=zl (F:=λ(an:Int) (S:Tm)=>(λ(w:ec)=>dR (kL S) λy A=>dR (hX w y A) λB d179=>if B then some (.next d179)else some (.ret (false,d179)))) Tm.ok XB Tm.aor ts 0 d1 VW VW (λj x d q q0 q1=>by
        have:=eu Tm.wt q;have:=x.ij;rw[sY VW,dP]
        exact JR x.E5 VW q0 q1)
       rw[ei VW,dU,dY];cases a1:ts.all Tm.ok with
       |false=>
        rw[a1,dK aal] at t1;obtain⟨d2,T⟩:=t1;rw[T,dI,p9];exact TG.no abm
       |true=>
        rw[a1,dO rfl] at t1;obtain⟨d2,T,U⟩:=t1;have u1:=U.lo;have u2:=U.hi;rw[T,dI,ew,ei VW,dU,dY]
        have t2:=zl (F:=λ(ad:Int) (C:Fm)=>(λ(D:ec)=>dR (jd C) λG H=>dR (hX D G H) λI d322=>if I then some (.next d322)else some (.ret (false,d322)))) Fm.ok XW Fm.aor fs 0 d2 VW VW (λj x d q q0 q1=>by
         have:=eu Fm.wt q;have:=x.ij;rw[qi VW,dP]
         exact JR x.E5 VW q0 q1)
        cases a2:fs.all Fm.ok with
        |false=>
         rw[a2,dK aal] at t2;obtain⟨d3,V⟩:=t2;rw[V,dI,p9];exact TG.no abm
        |true=>
         rw[a2,dO rfl] at t2;obtain⟨d3,V,W⟩:=t2;have u3:=W.lo;have u4:=W.hi;rw[V,dI,ew,ei VW,dU,dY]
         have t3:=zl (F:=λ(ae:Int) (J:Pf)=>(λ(K:ec)=>dR (iS n K J) λL u=>if L then some (.next u)else some (.ret (false,u)))) Pf.ok Pf.small Pf.aor l 0 d3 VW VW (λj x d q q0 q1=>by
          have:=eu Pf.wt q;have:=eu Pf.aor q;have:=x.ij;have q:=ih x d VW VW q0 VW;cases ho:x.ok with
          |true=>
           obtain⟨X,Y,w2⟩:=q.1 ho;rw[dO rfl,Y,dP,dO rfl];exact⟨X,rfl,w2⟩
          |false=>
           obtain⟨X,Y⟩:=q.2 ho;rw[dK aal,Y,dP,dK aal]
           exact⟨X,rfl⟩)
         cases a3:l.all Pf.ok with
         |false=>
          rw[a3,dK aal] at t3;obtain⟨d4,Z⟩:=t3;rw[Z,dI,p9];exact TG.no abm
         |true=>
          rw[a3,dO rfl] at t3;obtain⟨d4,Z,r4⟩:=t3;rw[Z,dI,ew];refine⟨λ_=>⟨d4,rfl,?_⟩,λh=>by simp at h⟩;have r0:TR d d1 true 1:=⟨VW,VW,λ_=>by omega,by simp[o.2]⟩;have:=((r0.trans U).trans W).trans r4;rw[B1] at this;exact this
      .have o:=hj (ec.mk (eH .i64 d.aor 1) d.jh) ⟨by show eH .i64 d.aor 1=_;rw[e9 VW VW],rfl⟩;unfold X3 at f
       by_cases ht:ty=true
       .rw[dO ht] at f|-
        have hz:¬eR s.err 0=true:=by rw[eW];simpa using f
        rw[lQ VW,dP,dK hz];exact o
       .rw[dK ht] at f|-;rw[td,dI,f,dO rfl];exact o
    .rw[dO (IW.2 N)];refine TG.no ?_
     have:Pf.node k i s ts.length fs.length l.length=false:=by
      rw[Yr]
      exactλh=>N ((HX M).1 h).1
     rw[this];simp
def AM{P:Pf}(h:P.wt<=1000000000):sl P=some P.err:=by
 have hn:=P.ij;have b:=Zi FU P (ec.mk 0 false) (by rw[fl];omega) h (by show(0:Int)<=0;omega) (by show(0:Int)+_<=_;omega);unfold sl rM Pf.err;cases c:P.ok with
 |false=>
  obtain⟨a,e⟩:=b.2 c
  grind[dP]
 |true=>
  obtain⟨a,e,r⟩:=b.1 c;rw[e,dP,dO rfl,dO rfl];have d:a.jh=!P.small:=r.jh;rw[d,lW];cases hs:P.small with
  |false=>grind[dP]|true=>
   have f:a.aor=(0:Int)+P.aor:=r.eq hs
   grind[hJ,dP]
def Xh(n:Nat)(k i:Int)(s:Ty)(ts:List Tm)(fs:List Fm)(l:List Pf):oH (n+1) (.mk k i s ts fs l)=(dR (qf k) λb A=>
 if(fq A (fq (eR (eE ts) b.ek) true (fq (eR (eE fs) b.gh) true (fq (eR (eE l) b.aoq) true (fq (pH i 0) true (fq b.aos false (eR i 0)))))) true) then(
 some false)
 else(en (λ(o:Bool)=>
 if o then(
 some false)
 else(gq (e_ ts)<|en (λ(B:Int) (q:Tm)=>(λ(_:Unit)=>
 dH (k9 FU q) λt=>
 if t then(
 some (.next ()))
 else(some (.ret false))):Int->Tm->(Unit)->(Option (fp (Unit) (Bool)))) λu=>
 dH (fa u ts 0 ()) (fQ (λ(_:Unit)=>
 gq (e_ fs)<|en (λ(C:Int) (v:Fm)=>(λ(_:Unit)=>
 dH (ml FU v) λc=>
 if c then(
 some (.next ()))
 else(some (.ret false))):Int->Fm->(Unit)->(Option (fp (Unit) (Bool)))) λd=>
 dH (fa d fs 0 ()) (fQ (λ(_:Unit)=>
 gq (e_ l)<|en (λ(y:Int) (f:Pf)=>(λ(_:Unit)=>
 dH (oH n f) λh=>
 if h then(
 some (.next ()))
 else(some (.ret false))):Int->Pf->(Unit)->(Option (fp (Unit) (Bool)))) λj=>
 dH (fa j l 0 ()) (fQ (λ(_:Unit)=>
 some true) (λr=>some r))) (λr=>some r))) (λr=>some r)))) λa=>
 if b.p0 then(
 dH (jj s) λw=>
 if(eR w 0) then(
 a true)
 else(a false))
 else(dH (qa s) λx=>
 a (lF x)))):=by
 rw[oH];rfl
def I8:∀(n:Nat) (P:Pf),P.wt<=n->P.wt<=1000000000->oH n P=some P.ok:=by
 intro n
 induction n with
 |zero=>intro P h;have:=P.kf;omega
 |succ n ih=>
  intro P hn B;cases P with
  |mk k i s ts fs l=>
   rw[Pf.iE] at hn B;have C:=je Tm.wt ts λt _=>t.kf;have D:=je Fm.wt fs λt _=>t.kf;have F:=je Pf.wt l λt _=>t.kf;rw[Pf.gX,Xh];rcases SA k with⟨w,r,y⟩|⟨H,ty,a,b,c,r,w,y,g1,g2,g3,g4,g5⟩
   .rw[y,dP,BM,dO rfl];simp[Pf.node,w]
   .rw[y,dP,g1,g2,g3,g4,g5,fV,fV,fV]
    by_cases A:(ts.length:Int)=a/\(fs.length:Int)=b/\(l.length:Int)=c/\0<=i/\(H=true\/i=0)
    .rw[dK (λh=>JJ.1 h A)]
     have f:Pf.node k i s ts.length fs.length l.length=X3 ty s:=by
      rw[L',HX w];exact⟨λh=>h.2,λh=>⟨A,h⟩⟩
     rw[f];refine vC (G:=λo=>o=some (X3 ty s&&ts.all Tm.ok&&fs.all Fm.ok&&l.all Pf.ok)) (λv=>v=!X3 ty s) (λv I=>?_) (λj J=>?_)
     .rw[I];cases X3 ty s with
      |false=>rfl|true=>
       rw[dK aal,ei VW,dU,dY,rL Tm.ok false ts 0 (λj x u=>by
        have:=eu Tm.wt u
        rw[yL VW,dI]),B1]
       cases ts.all Tm.ok with
       |false=>rfl|true=>
        rw[dO rfl,dI,ew,ei VW,dU,dY,rL Fm.ok false fs 0 (λj x u=>by
         have:=eu Fm.wt u
         rw[Al FU x (by rw[fl];omega) VW,dI]),B1]
        cases fs.all Fm.ok with
        |false=>rfl|true=>
         rw[dO rfl,dI,ew,ei VW,dU,dY,rL Pf.ok false l 0 (λj x u=>by
          have:=eu Pf.wt u
          rw[ih x VW VW,dI]),B1]
         cases l.all Pf.ok with
         |false=>rfl|true=>rfl
     .have d:=J (!X3 ty s) rfl;unfold X3 at d|-
      by_cases q:ty=true
      .rw[dO q] at d;rw[dO q,dO q,mI VW,dI]
       grind[eR,eW]
      .rw[dK q] at d;rw[dK q,dK q,xS,dI,UO];exact d
    .rw[dO (JJ.2 A)]
     grind[Pf.node,HX]
def Jc:∀(n:Nat) (P:Pf),P.wt<=n->P.wt<=1000000000->r_ n P=some P.small:=by
 intro n
 induction n with
 |zero=>intro P h;have:=P.kf;omega
 |succ n ih=>
  intro P hn b;cases P with
  |mk k i s ts fs l=>
   rw[Pf.iE] at hn b;have c:=je Tm.wt ts λt _=>t.kf;have d:=je Fm.wt fs λt _=>t.kf;have f:=je Pf.wt l λt _=>t.kf;rw[Pf.Ej,r_];simp only[Pf.ik,Pf.QB,Pf.ey,dY]
   rw[ei VW,dU,rL XB false ts 0 (λj x a=>by
    have:=eu Tm.wt a;have:=x.ij;rw[oq FU x (by rw[fl];omega) VW,dI]
    by_cases hs:x.aor<=4096
    .grind[hJ,XB]
    .rw[dO (by rw[hJ];omega),dK (by simpa[XB] using hs)])]
   cases ts.all XB with
   |false=>rfl|true=>
    rw[dO rfl,dI,ew,ei VW,dU,rL XW false fs 0 (λj x a=>by
     have:=eu Fm.wt a;have:=x.ij;rw[sP FU x (by rw[fl];omega) VW,dI]
     by_cases hs:x.aor<=4096
     .rw[dK (by rw[hJ];omega),dO (show XW x=true from xG hs)]
     .rw[dO (by rw[hJ];omega),dK (by simpa[XW] using hs)]),B1]
    cases fs.all XW with
    |false=>rfl|true=>
     rw[dO rfl,dI,ew,ei VW,dU,rL Pf.small false l 0 (λj x a=>by
      have:=eu Pf.wt a
      rw[ih x VW VW,dI]),B1]
     cases l.all Pf.small with
     |false=>rfl|true=>rfl
theorem Je:∀(n:Nat) (P:Pf),P.wt<=n->P.wt<=1000000000->sd n P=some (P.aor:Int):=by
 intro n
 induction n with
 |zero=>intro P h;have:=P.kf;omega
 |succ n ih=>
  intro P hn b;cases P with
  |mk k i s ts fs l=>
   rw[Pf.iE] at hn b;have c:=je Tm.wt ts λt _=>t.kf;have d:=je Fm.wt fs λt _=>t.kf;have f:=je Pf.wt l λt _=>t.kf;have o:=kI (l:=ts) (λx _=>Tm.ij x);have q:=kI (l:=fs) (λx _=>Fm.ij x);have r:=kI (l:=l) (λx _=>Pf.ij x);rw[Pf.dL,sd];simp only[Pf.ik,Pf.QB,Pf.ey,dY]
   rw[ei VW,dU,show(1:Int)=((1:Nat):Int)from rfl,qd Tm.aor ts 0 1 VW (λj x v a=>by
    have:=eu Tm.wt a;have:=x.ij
    rw[oq FU x (by rw[fl];omega) VW,dI]),dI,ew,ei VW,dU,qd Fm.aor fs 0 _ VW (λj x v a=>by
    have:=eu Fm.wt a;have:=x.ij
    rw[sP FU x (by rw[fl];omega) VW,dI]),dI,ew,ei VW,dU,qd Pf.aor l 0 _ VW (λj x v a=>by
    have:=eu Pf.wt a
    rw[ih x VW VW,dI]),dI,ew]
def Ke{P:Pf}(h:P.wt<=1000000000):uN P=some P.err:=by
 unfold uN y5 Pf.err;rw[I8 FU P (by rw[fl];omega) h,dI];cases P.ok with
 |false=>rfl|true=>
  rw[dO rfl,dO rfl,dY,Jc FU P (by rw[fl];omega) h,dI];cases P.small with
  |false=>rfl|true=>grind[Je,FU,fl,dI,HU]
def Pf.ajo{P:Pf}(h:P.err=0):P.aor<=16384:=by
 unfold Pf.err at h;cases b:P.ok with
 |false=>grind|true=>
  by_cases a:P.small=true/\P.aor<=16384
  .exact a.2
  .grind
def RW:∀(n:Nat) (t:Tm),t.aor<=n->t.aor<=50000000->t.ok=true->yn n t=some t:=by
 intro n
 induction n with
 |zero=>intro t h;have:=t.eF;omega
 |succ n ih=>
  intro t hn c a;cases t with
  |mk k i s l=>
   rw[Tm.dL] at hn c;have o:=Tm.fA l;have hi:=Tm.lM a;rw[Tm.gX,gJ] at a;have d:=Ty.xD a.1;rw[yn];simp only[Tm.eD,Tm.gn,Tm.fx,Tm.ey,dY]
   rw[pK VW,dI,ei VW,dU,kh id l 0 [] abv (λj x v b f=>by
    have:=eu Tm.aor b
    rw[ih x VW VW (hi.2.2.2.1 x b),dI,fk (by simpa using f),dU,ig];rfl)]
   simp
def Fm.af7:∀(f:Fm) (b:Int),f.HW (λt _=>t) b=f:=by
 intro f
 induction f using Fm.ind with
 |h k s ts l ih=>
  intro b;rw[Fm.A7,th (g:=id) (λx a=>ih x a _)];simp
def Dm{f:Fm}(h:f.err=0)(c:f.aov 1000000000000=true):pz f=some f:=by
 obtain⟨d,hn⟩:=Fm.iK h;unfold pz;rw[o8 (h:=λi j=>nM i j) (ψ:=λt _=>t) (λt b a _ _=>?_) FU f 0 (by rw[fl];omega) VW d c VW VW]
 .rw[dP,Fm.af7]
 .have:=a.aor;unfold nM;rw[RW FU t (by rw[fl];omega) a.aor a.ok];rfl
noncomputable def Pg (L:List Fm) (q:Sq):Int:=if 32<L.length then 3 else if fC (L.map λf=>MM f [])≠0 then fC (L.map λf=>MM f [])else if xP q.aot≠0 then xP q.aot else if 16<q.aow.length then 3 else fC (q.aow.map λf=>MM f q.aot)
structure SqB (L:List Fm) (q:Sq):Prop where
 Ag:∀f∈L,f.wt<=1000000000
 tys:∀t∈q.aot,t.aor<=1000000000
 tyl:q.aot.length<=1000000
 aow:∀f∈q.aow,f.wt<=1000000000
def JH{e:Int}:(dH (some e) λa=>if(eR a 0) then some (.ret a)else some ((.next ()):fp Unit Int))=if e≠0 then some (.ret e)else some (.next ()):=by
 rw[dI]
 by_cases h:e=0
 .subst h;rfl
 .rw[dO (by rw[eW];exact h),dO h]
def acD{C:List Ty->Option Int}{T:List Ty->Fm->Option Int}{L:List Fm}{q:Sq}(u:C q.aot=some (xP q.aot))(v:∀f∈L,T [] f=some (MM f []))(w:∀f∈q.aow,T q.aot f=some (MM f q.aot)):(if(pw (eE L) 32) then some 3 else gq (e_ L)<|en (λ(y:Int) (i:Fm)=>(λ(_:Unit)=>dH (T [] i) λa=>if(eR a 0) then some (.ret a)else some ((.next ()):fp Unit Int))) λk=>
   dH (fa k L 0 ()) (fQ (λ(_:Unit)=>dH (C q.aot) λb=>if(eR b 0) then some b else if(pw (eE q.aow) 16) then some 3 else gq (e_ q.aow)<|en (λ(A:Int) (l:Fm)=>(λ(_:Unit)=>dH (T q.aot l) λc=>if(eR c 0) then some (.ret c)else some ((.next ()):fp Unit Int))) λn=>
    dH (fa n q.aow 0 ()) (fQ (λ(_:Unit)=>some 0) (λr=>some r))) (λr=>some r)))=some (Pg L q):=by
 unfold Pg;rw[fV]
 by_cases s:32<L.length
 .rw[dO (by rw[hJ];omega),dO s]
 .have B:¬pw (L.length:Int) 32=true:=by rw[hJ];omega
  rw[dK B,dK s,ei VW,dU,dY];rw[mN (λf=>MM f []) L 0 (λj x o=>by rw[v x o];exact JH)]
  by_cases d:fC (L.map λf=>MM f [])=0
  .rw[dO d,dK (show¬(fC (L.map λf=>MM f [])≠0)fromλh=>h d),dI,ew,u,dI]
   by_cases c3:xP q.aot=0
   .have z2:¬eR (xP q.aot) 0=true:=by rw[eW];simpa using c3
    rw[dK z2,dK (show¬(xP q.aot≠0)fromλh=>h c3),fV]
    by_cases t:16<q.aow.length
    .rw[dO (by rw[hJ];omega),dO t]
    .have z3:¬pw (q.aow.length:Int) 16=true:=by rw[hJ];omega
     rw[dK z3,dK t,ei VW,dU,dY];rw[mN (λf=>MM f q.aot) q.aow 0 (λj x o=>by rw[w x o];exact JH)]
     by_cases c5:fC (q.aow.map λf=>MM f q.aot)=0
     .rw[dO c5,c5];rfl
     .rw[dK c5];rfl
   .have z2:eR (xP q.aot) 0=true:=by rw[eW];exact c3
    rw[dO z2,dO c3]
  .rw[dK d,dO d];rfl
def OH{L:List Fm}{q:Sq}(h:SqB L q):ue L q=some (Pg L q):=by
 have a:∀t∈([]:List Ty),t.aor<=1000000000:=λt c=>by simp at c
 exact acD (C:=mq) (T:=lL) (tx q.aot h.tyl h.tys) (λx b=>vK (h.Ag x b) abm a) (λx b=>vK (h.aow x b) h.tyl h.tys)
def AN:∀{l:List Int},(∀e∈l,e=0)->fC l=0
 |[],_=>rfl|a::l,h=>by
  rw[fC,dO (h a abm)];exact AN λe he=>h e (by simp[he])
def se:∀{l:List Int},fC l=0->∀e∈l,e=0
 |[],_,e,he=>by simp at he
 |a::l,h,e,he=>by
  rw[fC] at h
  by_cases b:a=0
  .rw[dO b] at h;rcases kX.1 he with rfl|he
   .exact b
   .exact se h e he
  .rw[dK b] at h;exact absurd h b
def abi{f:Fm}{g:List Ty}(h:MM f g=0):Hg g f:=by
 unfold MM at h
 by_cases b:xP g=0
 .rw[dK (λh=>h b)] at h
  by_cases a:f.err=0
  .rw[dK (λh=>h a)] at h;exact⟨a,BP f (Fm.iK a).1 g (jf.of b).1 h⟩
  .rw[dO a] at h;exact absurd h a
 .rw[dO b] at h;exact absurd h b
structure zA (L:List Fm) (q:Sq):Prop where
 ln:L.length<=32
 Ag:∀f∈L,Hg [] f
 ctx:jf q.aot
 nv:q.aot.length<=16
 nh:q.aow.length<=16
 aow:∀f∈q.aow,Hg q.aot f
def V0{L:List Fm}{q:Sq}(h:Pg L q=0):zA L q:=by
 unfold Pg at h
 by_cases d:32<L.length
 .rw[dO d] at h;cases h
 .rw[dK d] at h
  by_cases a:fC (L.map λf=>MM f [])=0
  .rw[dK (λh=>h a)] at h
   by_cases b:xP q.aot=0
   .rw[dK (λh=>h b)] at h
    by_cases i:16<q.aow.length
    .rw[dO i] at h;cases h
    .rw[dK i] at h;obtain⟨j,k⟩:=jf.of b;exact⟨VW,λf c=>abi (se a _ (ql.2 ⟨f,c,rfl⟩)),j,k,VW,λf c=>abi (se h _ (ql.2 ⟨f,c,rfl⟩))⟩
   .rw[dO b] at h;exact absurd h b
  .rw[dO a] at h;exact absurd h a
def zA.zero{L:List Fm}{q:Sq}(h:zA L q):Pg L q=0:=by
 have c:∀{g:List Ty} {f:Fm},jf g->g.length<=16->Hg g f->MM f g=0:=λhg b a=>by
  unfold MM;rw[H8 hg b,dK aal,dK (λh=>h a.err)];exact o0 a.ty hg (by have:=a.aor;omega)
 have d:fC (L.map λf=>MM f [])=0:=AN λe he=>by
  obtain⟨f,a,rfl⟩:=ql.1 he;exact c (λ_ h=>by simp at h) abm (h.Ag f a)
 have i:fC (q.aow.map λf=>MM f q.aot)=0:=AN λe he=>by
  obtain⟨f,a,rfl⟩:=ql.1 he;exact c h.ctx h.nv (h.aow f a)
 unfold Pg;have:=h.ln;have:=h.nh;rw[dK VW,d,dK aal,H8 h.ctx h.nv,dK aal,dK VW,i]
def Pf.Vf:∀(l:List Pf),(∀x∈l,x.Ih<=x.aor)->Pf.Mc l<=ee Pf.aor l
 |[],_=>by simp[Pf.Mc]|a::l,ih=>by
  have c:=ih a abm;have d:=Pf.Vf l (λx b=>ih x (by simp[b]));simp only[Pf.Mc,ee];omega
def Pf.Wi(p:Pf):p.Ih<=p.aor:=by
 induction p using Pf.ind with
 |h k i s ts fs l ih=>
  rw[Pf.dL,Pf.Ih];have:=Pf.Vf l ih;omega
noncomputable def ZU (L:List Fm) (q:Sq) (P:Pf):PR:=mf (Pg L q) (mf P.err (P.inf L q.aot q.aow))
def Jf{L:List Fm}{q:Sq}{P:Pf}(h:SqB L q)(j:P.wt<=1000000000)(hw:Ku P):(∃e,e≠0/\ZU L q P=.inr e/\ny L q P=some (⟨oE,[]⟩,e))\/∃(f:Fm) (m:Nat) (l:List Int),ZU L q P=.inl (f,m)/\ny L q P=some (⟨f,l⟩,0)/\Us l m/\Hg q.aot f/\zA L q/\P.err=0:=by
 unfold ny ZU;rw[OH h,dI]
 by_cases b:Pg L q=0
 .have a:=V0 b;rw[b,dK nz,iv rfl,Ke j,dI]
  by_cases c:P.err=0
  .have hn:=Pf.ajo c;have k:=P.Wi;rw[c,dK nz,iv rfl];rcases aaW hw FU (by rw[fl];omega) (dT.mk L q.aot q.aow) ⟨⟨a.ctx,a.nv,a.nh⟩,rfl,a.Ag,a.aow⟩with⟨e,he,q1,i⟩|⟨f,m,l,q1,i,hu,d⟩
   .rw[i,dP,dO (by rw[eW];exact he)];exact .inl ⟨e,he,q1,rfl⟩
   .have d:Hg q.aot f:=d;have n:=hu.len;have o:=f.kQ d.ok;have r:=d.aor;rw[i,dP,dK nz];simp only[];rw[w8 VW,dI,fk abv,dU,ig,n9];exact .inr ⟨f,m,l,q1,rfl,hu,d,a,by trivial⟩
  .rw[dO (by rw[eW];exact c),pY c];exact .inl ⟨_,c,rfl,rfl⟩
 .rw[dO (by rw[eW];exact b),pY b];exact .inl ⟨_,b,rfl,rfl⟩
def zA.below{L:List Fm}{q:Sq}(h:zA L q){l:List Ty}(b:jf l)(hn:q.aot.length+l.length<=16):zA L ⟨q.aot++l,q.aow.map (Fm.up 0 l.length)⟩:=by
 refine⟨h.ln,h.Ag,h.ctx.append b,by simpa using hn,by simpa using h.nh,λf c=>?_⟩;obtain⟨f0,a,rfl⟩:=ql.1 c;exact(h.aow f0 a).up l
def zA.with{L:List Fm}{q:Sq}(h:zA L q){f:Fm}(a:Hg q.aot f)(hn:q.aow.length+1<=16):zA L ⟨q.aot,q.aow++[f]⟩:=by
 refine⟨h.ln,h.Ag,h.ctx,h.nv,by simpa using hn,λx hx=>?_⟩;rcases tl.1 hx with hx|hx
 .exact h.aow x hx
 .rw[Hf.1 hx];exact a
def Hg.wt{g:List Ty}{f:Fm}(h:Hg g f):f.wt<=266240:=by
 have:=f.kQ h.ok;have:=h.aor;omega
def zA.b{L:List Fm}{q:Sq}(h:zA L q):SqB L q:=by
 refine⟨λf a=>by have:=(h.Ag f a).wt;omega,λt c=>by have:=fI (h.ctx t c);omega,by have:=h.nv;omega,λf a=>by have:=(h.aow f a).wt;omega⟩
def pb:Nat->Nat
 |0=>10000|k+1=>3*pb k+1000000
def eg.lift{g:List Ty}{x:Tm}{t:Ty}(h:eg g x t)(e:List Ty):eg (g++e) (x.up 0 e.length) t:=by
 have:=h.up g [] e abm
 grind
def Fm.jx{f:Fm}(h:f.ok=true)(hn:f.aor<=4096):f.err=0:=by
 unfold Fm.err;rw[dO h,dK VW]
theorem il{P:Pf}(h:P.err=0):P.ok=true/\P.small=true/\P.aor<=16384:=by
 unfold Pf.err at h;cases b:P.ok with
 |false=>rw[b] at h;cases h
 |true=>
  rw[b,dO rfl] at h
  by_cases a:P.small=true/\P.aor<=16384
  .exact⟨rfl,a.1,a.2⟩
  .rw[dK a] at h;cases h
def Ij{L:List Fm}{q:Sq}(h:zA L q){P:Pf}(a:P.err=0):ZU L q P=P.inf L q.aot q.aow:=by
 unfold ZU;rw[iv h.zero,iv a]
def Ia{f:Fm}{m:Nat}(h:f.err=0):vO (.inl (f,m))=.inl (f,if f.has then m else 0):=by
 unfold vO;rw[iP,dO h]
theorem UE{f:Fm}{m:Nat}(h:f.err≠0):vO (.inl (f,m))=.inr 4:=by
 unfold vO;rw[iP,dK h]
def SX:zA [] ⟨[],[]⟩:=⟨abm,λf h=>by simp at h,λs h=>by simp at h,abm,abm,λf h=>by simp at h⟩
noncomputable def tj (a b:Tm):Int:=@ite Int (a=b) (Classical.propDecidable _) 0 (if(a.norm 1000 0).2.2≠0 then(a.norm 1000 0).2.2 else if(b.norm 1000 0).2.2≠0 then(b.norm 1000 0).2.2 else@ite Int ((a.norm 1000 0).1=(b.norm 1000 0).1) (Classical.propDecidable _) 0 11)
def FF(a:Tm):tj a a=0:=dO rfl
def OG{a b:Tm}(h:a≠b):tj a b=if(a.norm 1000 0).2.2≠0 then(a.norm 1000 0).2.2 else if(b.norm 1000 0).2.2≠0 then(b.norm 1000 0).2.2 else@ite Int ((a.norm 1000 0).1=(b.norm 1000 0).1) (Classical.propDecidable _) 0 11:=dK h
def Nm.acX{a:Tm}(h:Nm a)(b:(a.norm 1000 0).2.2=0):(a.norm 1000 0).1.ok=true/\(a.norm 1000 0).1.aor<=4096:=by
 obtain⟨p,n,e,c⟩:∃p n e,a.norm 1000 0=(p,n,e):=⟨_,_,_,rfl⟩;rw[c] at b|-;have b:e=0:=b;subst b;have:=HZ 1000 536870912 0 a p n VW (Sm.start h.err h.aov) (kV h.err).2 c;exact⟨this.1.ok,this.2⟩
def Jz{a b:Tm}(f:Nm a)(i:Nm b):ki a b 1000=some (tj a b):=by
 have x:=a.kQ (kV f.err).1;have y:=b.kQ (kV i.err).1;have A:=(kV f.err).2;have B:=(kV i.err).2;unfold ki;rw[jQ VW,f.err,dI,dK nz,jQ VW,i.err,dI,dK nz];obtain⟨r,u,o⟩:=xJ FU a b (by rw[fl];omega) VW;rw[u,dI]
 by_cases c:a=b
 .rw[dO (o.2 c),c,FF]
 .rw[dK (λh=>c (o.1 h)),OG c,f.one,i.one];obtain⟨p,n,e,v⟩:∃p n e,a.norm 1000 0=(p,n,e):=⟨_,_,_,rfl⟩;obtain⟨s,n',w,l⟩:∃p n e,b.norm 1000 0=(p,n,e):=⟨_,_,_,rfl⟩;have j:=f.acX;rw[v] at j|-;rw[l,gw];simp only[] at j|-
  by_cases he:e=0
  .subst he;rw[dK nz,dK aal,gw]
   by_cases d:w=0
   .subst d;rw[dK nz,dK aal];have C:=p.kQ (j rfl).1;have D:=(j rfl).2;obtain⟨q,q1,t⟩:=xJ FU p s (by rw[fl];omega) VW;rw[q1,dI]
    by_cases k:p=s
    .rw[dO (t.2 k),dO k]
    .rw[dK (λh=>k (t.1 h)),dK k]
   .rw[dO (by rw[eW];exact d),dO d]
  .rw[dO (by rw[eW];exact he),dO he]
mutual
noncomputable def Fm.Fh:Fm->Fm->Int
 |.mk k s ts l,b=>if k≠b.aop\/s.lj b.dM=false then 11 else if fC (List.zipWith tj ts b.ek)≠0 then fC (List.zipWith tj ts b.ek)else fC (Fm.VV l b.aoq)
noncomputable def Fm.VV:List Fm->List Fm->List Int
 |a::l,b::m=>a.Fh b::Fm.VV l m|_,_=>[]
end
def Fm.Vz:∀(l m:List Fm),Fm.VV l m=List.zipWith Fm.Fh l m
 |[],m=>by rw[Fm.VV];rfl;intros;simp_all|a::l,[]=>by rw[Fm.VV];rfl;intros;simp_all|a::l,b::m=>by rw[Fm.VV,Fm.Vz l m];rfl
def Fm.Fa(k k':Int)(s b:Ty)(ts a:List Tm)(l c:List Fm):(Fm.mk k s ts l).Fh (.mk k' b a c)=if k≠k'\/s.lj b=false then 11 else if fC (List.zipWith tj ts a)≠0 then fC (List.zipWith tj ts a)else fC (List.zipWith Fm.Fh l c):=by rw[Fm.Fh,Fm.Vz];rfl
def JB{α:Type}{E:α->α->Option Int}{e:α->α->Int}{M:List α}:∀(l:List α) (i:Nat),l.length+i=M.length->(∀x∈l,∀y∈M,E x y=some (e x y))->fa (λ(d:Int) (f:α)=>(λ(_:Unit)=>dH (dW M d) λb=>dH (E f b) λa=>if(eR a 0) then(some (.ret a))else(some ((.next ()):fp Unit Int)))) l i ()=some (if fC (List.zipWith e l (M.drop i))=0 then .inl ()else .inr (fC (List.zipWith e l (M.drop i))))
 |[],i,_,_=>by simp[fC]|x::l,i,n,h=>by
  simp only[kY] at n
  have hi:i<M.length:=VW
  have ih:=JB (E:=E) (e:=e) (M:=M) l (i+1) VW (λy hy=>h y (by simp[hy]));have o:M.drop i=M[i]::M.drop (i+1):=(K0 hi)
  have q:List.zipWith e (x::l) (M.drop i)=e x M[i]::List.zipWith e l (M.drop (i+1)):=by rw[o];rfl
  rw[q,eV,gS,pE hi,dI,h x abm _ (Ek hi),dI]
  by_cases c:e x M[i]=0
  .have j:¬eR (e x M[i]) 0=true:=by rw[eW];simpa using c
   have k:fC (e x M[i]::List.zipWith e l (M.drop (i+1)))=fC (List.zipWith e l (M.drop (i+1))):=by rw[fC,dO c]
   rw[dK j,dI,eQ,k];exact ih
  .have j:eR (e x M[i]) 0=true:=by rw[eW];exact c
   have k:fC (e x M[i]::List.zipWith e l (M.drop (i+1)))=e x M[i]:=by rw[fC,dK c]
   rw[dO j,dI,AB,k,dK c]
def Jl:∀(n:Nat) (a b:Fm),a.aor<=n->a.aor<=4096->b.aor<=4096->a.ok=true->b.ok=true->Yn a->Yn b->jK n a b=some (a.Fh b):=by
 intro n
 induction n with
 |zero=>intro a b h;have:=a.eF;omega
 |succ n ih=>
  intro a b hn D F S T W X;cases a with
  |mk k s ts l=>
  cases b with
  |mk k' A c H=>
   cases W with
   |mk I J=>
   cases X with
   |mk K L=>
   rw[Fm.dL] at hn D F;obtain⟨a1,a2,a3⟩:=Fm.p_ S;obtain⟨Z,b2,Y⟩:=Fm.p_ T;have l1:=Tm.fA ts;have l2:=Fm.fA l;rw[jK,Fm.Fa];refine vC (G:=λo=>o=some (if k≠k'\/s.lj A=false then 11 else if fC (List.zipWith tj ts c)≠0 then fC (List.zipWith tj ts c)else fC (List.zipWith Fm.Fh l H))) (λv=>v=true↔(k≠k'\/s.lj A=false)) (λv U=>?_) (λj V=>?_)
   .by_cases i:k≠k'\/s.lj A=false
    .rw[dO (U.2 i),dO i]
    .rw[dK (λh=>i (U.1 h)),dK i];have M:k=k':=agA λh=>i (.inl h);subst M;obtain⟨e1,e2⟩:=Fm.shape S T;show(gq (e_ ts) _:Option Int)=_;rw[ei VW,dU,dY];show dH (fa (λ(N:Int) (O:Tm)=>(λ(_:Unit)=>dH (dW c N) λq=>dH (ki O q 1000) λd=>if(eR d 0) then(some (.ret d))else(some ((.next ()):fp Unit Int)))) ts 0 ()) _=_;rw[JB (E:=λx y=>ki x y 1000) (e:=tj) ts 0 VW (λx r y hy=>Jz (I x r) (K y hy)),List.drop_zero]
     by_cases B:fC (List.zipWith tj ts c)=0
     .rw[dO B,dI,ew,dK (λh=>h B)];show(gq (e_ l) _:Option Int)=_;rw[ei VW,dU,dY];show dH (fa (λ(t:Int) (u:Fm)=>(λ(_:Unit)=>dH (dW H t) λw=>dH (jK n u w) λf=>if(eR f 0) then(some (.ret f))else(some ((.next ()):fp Unit Int)))) l 0 ()) _=_
      rw[JB (E:=λx y=>jK n x y) (e:=Fm.Fh) l 0 VW (λx r y hy=>by
       have m1:=eu Fm.aor r;have m2:=eu Fm.aor hy
       exact ih x y VW VW VW (a3 x r) (Y y hy) (J x r) (L y hy)),List.drop_zero]
      by_cases P:fC (List.zipWith Fm.Fh l H)=0
      .rw[dO P,P];rfl
      .rw[dK P];rfl
     .rw[dK B,dO B];rfl
   .show(if(eR k k') then j true else dH (fO FU s A) λQ=>j (lF Q))=_
    by_cases C:k=k'
    .have R:¬eR k k'=true:=by rw[eW];simpa using C
     rw[dK R,im VW,dI];exact V _ (by rw[UO];simp[C])
    .have R:eR k k'=true:=by rw[eW];exact C
     rw[dO R];exact V _ (by simp[C])
def Hg.nmF{g:List Ty}{f:Fm}(h:Hg g f)(hg:g.length<=1000000):Yn f:=Yn.of f h.aor h.ok (h.ty.aov _ (by have:=h.aor;omega))
theorem Ex{g f:List Ty}{a b:Fm}(c:Hg g a)(d:Hg f b)(h:g.length<=1000000)(i:f.length<=1000000):B2 a b=a.Fh b:=by
 have j:=c.wt;have k:=d.wt
 have e:k4 a b=some (a.Fh b):=by
  unfold k4;rw[iz VW,c.err,dI,dK nz,iz VW,d.err,dI,dK nz,Jl FU a b (by rw[fl];have:=c.aor;omega) c.aor d.aor c.ok d.ok (c.nmF h) (d.nmF i)];rfl
 unfold B2;rw[e];rfl
def uV{α:Type}{e:α->α->Int}:∀(l:List α),(∀x∈l,e x x=0)->fC (List.zipWith e l l)=0
 |[],_=>rfl|x::l,h=>by
  have a:=h x abm;show fC (e x x::List.zipWith e l l)=0;rw[fC,dO a];exact uV l λy hy=>h y (by simp[hy])
def Fm.aai(f:Fm):f.Fh f=0:=by
 induction f using Fm.ind with
 |h k s ts l ih=>
  rw[Fm.Fa,dK (by rintro(h|h);exact h rfl;rw[(Ty.lq s s).2 rfl] at h;cases h),uV ts (λx _=>FF x),dK aal,uV l ih]
def DB(a b:Tm):Prop:=a.ok=true/\b.ok=true/\∃c,oo a c/\oo b c
theorem DB.refl{a:Tm}(h:a.ok=true):DB a a:=⟨h,h,a,.refl a,.refl a⟩
def DB.symm{a b:Tm}(h:DB a b):DB b a:=⟨h.2.1,h.1,let⟨c,p,q⟩:=h.2.2;⟨c,q,p⟩⟩
def DB.trans{a b c:Tm}(h:DB a b)(d:DB b c):DB a c:=by
 obtain⟨f,i,x,j,k⟩:=h;obtain⟨_,l,y,n,o⟩:=d;obtain⟨w,q,r⟩:=k.meet y i n;exact⟨f,l,w,j.trans q,o.trans r⟩
def DB.star{a b:Tm}(c:a.ok=true)(h:oo a b):DB a b:=⟨c,h.ok c,b,h,.refl b⟩
def oo.up{t u:Tm}(h:oo t u):t.ok=true->∀f c:Int,0<=f->0<=c->oo (t.up f c) (u.up f c):=by
 induction h with
 |refl t=>intro _ f c _ _;exact .refl _|step a _ ih=>intro b f c d i;exact .step (a.up b f c d i) (ih (a.ok b) f c d i)
def oo.HO{t u:Tm}(h:oo t u){x:Tm}(a:x.ok=true):t.ok=true->∀n:Int,0<=n->oo (Tm.gP n t x) (Tm.gP n u x):=by
 induction h with
 |refl t=>intro _ n _;exact .refl _|step b _ ih=>intro c n hn;exact .step (b.gP (mP.refl x a) a c n hn) (ih (b.ok c) n hn)
def oo.aka{x y:Tm}(h:oo x y){t:Tm}(a:t.ok=true):x.ok=true->∀n:Int,0<=n->oo (Tm.gP n t x) (Tm.gP n t y):=by
 induction h with
 |refl t=>intro _ n _;exact .refl _|step b _ ih=>intro c n hn;exact .step ((mP.refl t a).gP b c a n hn) (ih (b.ok c) n hn)
def DB.up{a b:Tm}(h:DB a b){f c:Int}(d:0<=f)(i:0<=c):DB (a.up f c) (b.up f c):=by
 obtain⟨j,k,x,l,n⟩:=h;exact⟨by rw[Tm.J3 a f c d i];exact j,by rw[Tm.J3 b f c d i];exact k,_,l.up j f c d i,n.up k f c d i⟩
theorem DB.gP{a b x y:Tm}(h:DB a b)(o:DB x y){n:Int}(hn:0<=n):DB (Tm.gP n a x) (Tm.gP n b y):=by
 obtain⟨f,i,c,k,l⟩:=h;obtain⟨j,hy,d,d1,d2⟩:=o;refine⟨Tm.Jp x j a n hn f,Tm.Jp y hy b n hn i,Tm.gP n c d,?_,?_⟩
 .exact(k.HO j f n hn).trans (d1.aka (k.ok f) j n hn)
 .exact(l.HO hy i n hn).trans (d2.aka (l.ok i) hy n hn)
def pD(e:Int):Prop:=e=3\/e=4\/e=5
def Et{a p:Tm}{n:Int}(h:a.norm 1000 0=(p,n,0))(b:a.ok=true):p.nf=true/\oo a p:=⟨(VC 1000 0 a p n h).1,MK 1000 0 a p n b h⟩
def Vd{a b:Tm}(h:DB a b):tj a b=0\/pD (tj a b):=by
 by_cases i:a=b
 .rw[i,FF];exact .inl rfl
 .rw[OG i];obtain⟨k,q,c,r,t⟩:=h;have u:=Ez 1000 0 a;have v:=Ez 1000 0 b
  by_cases d:(a.norm 1000 0).2.2=0
  .rw[dK (λh=>h d)]
   by_cases f:(b.norm 1000 0).2.2=0
   .rw[dK (λh=>h f)];obtain⟨p,n,e,s⟩:∃p n e,a.norm 1000 0=(p,n,e):=⟨_,_,_,rfl⟩;obtain⟨B,n',x,j⟩:∃p n e,b.norm 1000 0=(p,n,e):=⟨_,_,_,rfl⟩;rw[s] at d|-;rw[j] at f|-;have d:e=0:=d;have f:x=0:=f;subst d;subst f;obtain⟨n1,s1⟩:=Et s k;obtain⟨n2,s2⟩:=Et j q;obtain⟨w,y,A⟩:=s1.meet c k r;obtain⟨w',l,o⟩:=s2.meet c q t;have:=y.nf n1;subst this;have:=l.nf n2;subst this;have:w=w':=oo.unique (r.ok k) A o n1 n2;rw[dO this];exact .inl rfl
   .rw[dO f];rcases v with h|h|h
    .exact absurd h f
    .exact .inr (.inr (.inl h))
    .exact .inr (.inr (.inr h))
  .rw[dO d];rcases u with h|h|h
   .exact absurd h d
   .exact .inr (.inr (.inl h))
   .exact .inr (.inr (.inr h))
def Nb{a b:Tm}(k:a.ok=true)(j:b.ok=true)(h:tj a b=0):DB a b:=by
 by_cases f:a=b
 .rw[f];exact .refl j
 .rw[OG f] at h
  by_cases c:(a.norm 1000 0).2.2=0
  .rw[dK (λh=>h c)] at h
   by_cases d:(b.norm 1000 0).2.2=0
   .rw[dK (λh=>h d)] at h;obtain⟨p,n,e,l⟩:∃p n e,a.norm 1000 0=(p,n,e):=⟨_,_,_,rfl⟩;obtain⟨q,n',r,i⟩:∃p n e,b.norm 1000 0=(p,n,e):=⟨_,_,_,rfl⟩;rw[l] at c h;rw[i] at d h;have c:e=0:=c;have d:r=0:=d;subst c;subst d
    by_cases o:p=q
    .subst o;exact⟨k,j,p,(Et l k).2,(Et i j).2⟩
    .rw[dK o] at h;cases h
   .rw[dO d] at h;exact absurd h d
  .rw[dO c] at h;exact absurd h c
inductive rl:Fm->Fm->Prop
 |eq {a a' b b'}:DB a a'->DB b b'->rl (.mk 1 .z [a,b] []) (.mk 1 .z [a',b'] [])|two {k a a' b b'}:rl a a'->rl b b'->rl (.mk k .z [] [a,b]) (.mk k .z [] [a',b'])|q {k s a a'}:rl a a'->rl (.mk k s [] [a]) (.mk k s [] [a'])
theorem rl.refl{g:List Ty}{f:Fm}(h:jy g f):rl f f:=by
 induction h with
 |eq c d=>exact .eq (.refl c.ok) (.refl d.ok)|two _ _ _ a b=>exact .two a b|q _ _ _ ih=>exact .q ih
def rl.symm{a b:Fm}(h:rl a b):rl b a:=by
 induction h with
 |eq f i=>exact .eq f.symm i.symm|two _ _ c d=>exact .two c d|q _ ih=>exact .q ih
def rl.trans{a b:Fm}(h:rl a b):∀{c:Fm},rl b c->rl a c:=by
 induction h with
 |eq k l=>intro c h;cases h with|eq d f=>exact .eq (k.trans d) (l.trans f)
 |two _ _ i j=>intro c h;cases h with|two d f=>exact .two (i d) (j f)
 |q _ ih=>intro c h;cases h with|q d=>exact .q (ih d)
def rl.up{a b:Fm}(h:rl a b):∀{f c:Int},0<=f->0<=c->rl (a.up f c) (b.up f c):=by
 induction h with
 |eq n o=>intro f c i d;rw[Fm.fE,Fm.fE];exact .eq (n.up i d) (o.up i d)|@two k _ _ _ _ _ _ j l=>intro f c i d;have:=uI k;rw[Fm.fE,Fm.fE];exact .two (j VW d) (l VW d)
 |@q k _ _ _ _ ih=>intro f c i d;have:=uI k;rw[Fm.fE,Fm.fE];exact .q (ih VW d)
theorem rl.gP{a b:Fm}(h:rl a b){x y:Tm}(c:DB x y):∀{n:Int},0<=n->rl (Fm.gP n a x) (Fm.gP n b y):=by
 induction h with
 |eq i j=>intro n hn;rw[Fm.fN,Fm.fN];exact .eq (i.gP c hn) (j.gP c hn)|@two k _ _ _ _ _ _ d f=>intro n hn;have:=uI k;rw[Fm.fN,Fm.fN];exact .two (d VW) (f VW)
 |@q k _ _ _ _ ih=>intro n hn;have:=uI k;rw[Fm.fN,Fm.fN];exact .q (ih VW)
def rl.has{a b:Fm}(h:rl a b):a.has=b.has:=by
 induction h with
 |eq _ _=>rw[Fm.has_eq,Fm.has_eq]|@two k _ _ _ _ _ _ c d=>rw[Fm.BE,Fm.BE,c,d]|@q k _ _ _ _ ih=>rw[Fm.ug,Fm.ug,ih]
def yM:∀{l:List Int},(∀e∈l,e=0\/pD e)->fC l=0\/pD (fC l)
 |[],_=>.inl rfl|e::l,h=>by
  rw[fC]
  by_cases he:e=0
  .rw[dO he];exact yM λx a=>h x (by simp[a])
  .rw[dK he];exact .inr ((h e abm).resolve_left he)
def rl.Fh{a b:Fm}(h:rl a b):a.Fh b=0\/pD (a.Fh b):=by
 have hs:∀(k:Int) (s:Ty),¬(k≠k\/s.lj s=false):=λk s h=>by
  rcases h with h|h
  .exact h rfl
  .rw[(Ty.lq s s).2 rfl] at h;cases h
 induction h with
 |@eq a c b d o r=>
  rw[Fm.Fa,dK (hs _ _)]
  have f:=yM (l:=[tj a c,tj b d]) (λe he=>by
   simp only[kX,ry,pM] at he;rcases he with rfl|rfl
   .exact Vd o
   .exact Vd r)
  show(if fC [tj a c,tj b d]≠0 then fC [tj a c,tj b d] else fC [])=0\/_
  by_cases i:fC [tj a c,tj b d]=0
  .rw[dK (λh=>h i)];exact .inl rfl
  .show _\/pD (if fC [tj a c,tj b d]≠0 then fC [tj a c,tj b d] else fC []);rw[dO i];exact .inr (f.resolve_left i)
 |@two k a c b d _ _ j n=>
  have f:=yM (l:=[a.Fh c,b.Fh d]) (λe he=>by
   simp only[kX,ry,pM] at he;rcases he with rfl|rfl
   .exact j
   .exact n)
  rw[Fm.Fa,dK (hs _ _)];exact f
 |@q k s a c _ ih=>
  have f:=yM (l:=[a.Fh c]) (λe he=>by
   simp only[kX,ry,pM] at he
   rw[he];exact ih)
  rw[Fm.Fa,dK (hs _ _)];exact f
def QM{g:List Ty}{a:Fm}(h:jy g a):∀{v:List Ty} {b:Fm},jy v b->a.Fh b=0->rl a b:=by
 have key:∀{k k':Int} {s j:Ty} {ts f:List Tm} {l w:List Fm},(Fm.mk k s ts l).Fh (.mk k' j f w)=0->k=k'/\s=j/\fC (List.zipWith tj ts f)=0/\fC (List.zipWith Fm.Fh l w)=0:=by
  intro k k' s j ts f l w h;rw[Fm.Fa] at h
  by_cases d:k≠k'\/s.lj j=false
  .rw[dO d] at h;cases h
  .rw[dK d] at h
   by_cases i:fC (List.zipWith tj ts f)=0
   .rw[dK (λh=>h i)] at h;refine⟨agA λr=>d (.inl r),(Ty.lq s j).1 ?_,i,h⟩;cases x:s.lj j with
    |true=>rfl|false=>exact absurd (.inr x) d
   .rw[dO i] at h;exact absurd h i
 induction h with
 |@eq g a b i C=>
  intro v c d hm;cases d with
  |@eq _ D F t y=>
   obtain⟨_,_,u,_⟩:=key hm;have n:=se u;exact .eq (Nb i.ok t.ok (n _ abm)) (Nb C.ok y.ok (n _ abm))
  |two r _ _=>obtain⟨e,_⟩:=key hm;omega
  |q r _ _=>obtain⟨e,_⟩:=key hm;omega
 |@two g k a b r i C A B=>
  intro v c d hm;cases d with
  |eq _ _=>obtain⟨e,_⟩:=key hm;omega
  |@two _ k' D F o t y=>
   obtain⟨rfl,_,_,u⟩:=key hm;have n:=se u;exact .two (A t (n _ abm)) (B y (n _ abm))
  |q o _ _=>obtain⟨e,_⟩:=key hm;omega
 |@q g k s a r hs i ih=>
  intro v c d hm;cases d with
  |eq _ _=>obtain⟨e,_⟩:=key hm;omega
  |two o _ _=>obtain⟨e,_⟩:=key hm;omega
  |@q _ k' j D o G t=>
   obtain⟨rfl,rfl,_,u⟩:=key hm;have n:=se u;exact .q (ih t (n _ abm))
end Go.fP
