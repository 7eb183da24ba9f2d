/- Part of the proof of KernelLifts: plain facts. -/
import Derived.Test.YtobcafblgapgfaaGreatDoorPL1
set_option linter.all false
namespace Go.eD
open Go
def gb(a:Ty):a.fX a=true:=(Ty.gi a a).2 rfl
def hU{a b:Ty}(h:a≠b):a.fX b=false:=by grind[Ty.gi]
def ju{n:Nat}{g:List Ty}:∀(l:List Tm) (i:Nat) (v:List Ty),(∀a∈l,dU n g a=some (a.ty g))->v.length+l.length<=1000->eg (λ(m:Int) (j:Tm)=>(λ(c:List Ty)=>
   c0 (dU n g j) λd f=>
   if(dI f 0) then(
   some (eK.ret ((Ty.mk 0 []),f)))
   else(fU (eZ c [d])<|some (.next (fK c [d])))):Int->Tm->((List Ty))->(Option (eK ((List Ty)) (Ty×Int)))) l i v=some (match Tm.nJ l g with|.inl ts=>.inl (v++ts)|.inr e=>.inr (.z,e))
 |[],i,v,_,_=>by simp[Tm.nJ]|a::l,i,v,h,o=>by
  simp only[hQ] at o;have p:=h a aae;rw[dq,Tm.nJ];rw[p]
  by_cases k:(a.ty g).2=0
  ·rw[qN k,kE rfl];simp only[cI];rw[cJ Zk,di aaV];simp only[cM,cG,dt];rw[ju l (i+1) _ (λb q=>h b (by simp[q])) (by rw[ec];simp;omega),ec];cases Tm.nJ l g with
   |inl ts=>simp|inr e=>rfl
  ·rw[kD k];generalize a.ty g=r at k;obtain⟨t,e⟩:=r;simp only[cI];rw[cL (by simpa[dI] using k)];rfl
def sg(l:List Tm)(g:List Ty):(∃e,e≠0/\Tm.nJ l g=.inr e)\/∃ts,Tm.nJ l g=.inl ts/\ts.length=l.length/\∀(i:Nat) (a:Tm),l[i]?=some a->∃s,ts[i]?=some s/\a.ty g=(s,0):=by
 induction l with
 |nil=>exact .inr ⟨[],by rw[Tm.nJ],rfl,aae⟩|cons a l b=>
  rw[Tm.nJ]
  grind[kE,kD]
def EJ{f:List Ty->Ty×Int}{e:Int}:nY f (.inr e)=(.z,e):=rfl
def jw{f:List Ty->Ty×Int}{l:List Ty}:nY f (.inl l)=f l:=rfl
def uV{a:Tm}{g:List Ty}(b:a.ok=true)(hg:fh g):(∃e,e≠0/\Tm.nJ [a] g=.inr e)\/∃s,Tm.nJ [a] g=.inl [s]/\s.err=0:=by
 rcases sg [a] g with h|⟨ts,c,d,f⟩
 ·grind
 ·obtain⟨s,j,i⟩:=f 0 a rfl
  match ts,d with
  |[x],_=>
   obtain rfl:x=s:=by grind
   exact .inr ⟨x,c,(kX _ a (jM _) b g hg _ i).2⟩
def uP{a b:Tm}{g:List Ty}(d:a.ok=true)(f:b.ok=true)(hg:fh g):(∃e,e≠0/\Tm.nJ [a,b] g=.inr e)\/∃s t,Tm.nJ [a,b] g=.inl [s,t]/\s.err=0/\t.err=0:=by
 rcases sg [a,b] g with h|⟨ts,i,j,c⟩
 ·exact .inl h
 ·obtain⟨s,m,k⟩:=c 0 a rfl;obtain⟨t,n,l⟩:=c 1 b rfl
  match ts,j with
  |[x,y],_=>
   obtain rfl:x=s:=by grind
   obtain rfl:y=t:=by grind
   exact .inr ⟨x,y,i,(kX _ a (jM _) d g hg _ k).2,(kX _ b (jM _) f g hg _ l).2⟩
def tO{a b c:Tm}{g:List Ty}(f:a.ok=true)(i:b.ok=true)(j:c.ok=true)(hg:fh g):(∃e,e≠0/\Tm.nJ [a,b,c] g=.inr e)\/∃s t u,Tm.nJ [a,b,c] g=.inl [s,t,u]/\s.err=0/\t.err=0/\u.err=0:=by
 rcases sg [a,b,c] g with h|⟨ts,k,l,d⟩
 ·exact .inl h
 ·obtain⟨s,q,m⟩:=d 0 a rfl;obtain⟨t,r,n⟩:=d 1 b rfl;obtain⟨u,o,p⟩:=d 2 c rfl
  match ts,l with
  |[x,y,z],_=>
   obtain rfl:x=s:=by grind
   obtain rfl:y=t:=by grind
   obtain rfl:z=u:=by simpa using o
   exact .inr ⟨x,y,z,k,(kX _ a (jM _) f g hg _ m).2,(kX _ b (jM _) i g hg _ n).2,(kX _ c (jM _) j g hg _ p).2⟩
def wL{t:Ty}(h:t.afq<=1000000000)(a:t.ok=true):s5 t=some (if 64<t.afq then(.z,4)else(t,0)):=by
 unfold s5;rw[iw h];unfold Ty.err;rw[cL a]
 split
 ·rfl
 ·rfl
section
variable{s x y z:Ty}
def sH:((x.afo=4/\x.afp.getD 0 .z=y)->eO 3 s [x,y]=(x.afp.getD 1 .z,0))/\(¬(x.afo=4/\x.afp.getD 0 .z=y)->eO 3 s [x,y]=(.z,7)):=by
 unfold eO
 grind
def xW:(x=.nat->eO 5 s [x]=(.nat,0))/\(x≠ .nat->eO 5 s [x]=(.z,7)):=by
 unfold eO
 grind
def oJ:((x=s/\y=.fn .nat (.fn s s)/\z=.nat)->eO 6 s [x,y,z]=(s,0))/\(¬(x=s/\y=.fn .nat (.fn s s)/\z=.nat)->eO 6 s [x,y,z]=(.z,7)):=by
 unfold eO
 grind
def so:((x=.nat/\y=.hS)->eO 8 s [x,y]=(.hS,0))/\(¬(x=.nat/\y=.hS)->eO 8 s [x,y]=(.z,7)):=by
 unfold eO
 grind
def oN:((x=s/\y=.fn .nat (.fn .hS (.fn s s))/\z=.hS)->eO 9 s [x,y,z]=(s,0))/\(¬(x=s/\y=.fn .nat (.fn .hS (.fn s s))/\z=.hS)->eO 9 s [x,y,z]=(.z,7)):=by
 unfold eO
 grind
def Ct:eO 10 s [x,y]=if 64<1+x.afq+y.afq then(.z,4)else(.pr x y,0):=by
 rfl
def CH:eO 11 s [x]=if x.afo=3 then(x.afp.getD 0 .z,0)else(.z,7):=by
 rfl
def CE:eO 12 s [x]=if x.afo=3 then(x.afp.getD 1 .z,0)else(.z,7):=by
 rfl
end
def rH:∀(n:Nat) (t:Tm),t.afq<=n->t.ok=true->∀g,fh g->g.length+t.afq<=1000000->dU n g t=some (t.ty g):=by
 intro n
 induction n with
 |zero=>intro t h;have:=t.da;omega
 |succ n m=>
  intro t hn L;refine Tm.jJ (p:=λt=>t.afq<=n+1->∀g,fh g->g.length+t.afq<=1000000->dU (n+1) g t=some (t.ty g)) ?_ ?_ ?_ ?_ ?_ ?_ ?_ ?_ ?_ ?_ ?_ ?_ ?_ t L hn
  ·intro i _ g hg k;rw[Tm.cK] at k;rw[dU,cL abG,Tm.iR,cL rfl]
   by_cases hi:(i:Int)<(g.length:Int)
   ·rw[cJ (by simp only[Tm.dX,dK,fB];omega),cL hi];simp only[Tm.dX,dK];rw[dF (a:=(g.length:Int)) Zb Zb,dF Zb Zb]
    have w:g.length-1-i<g.length:=Zb
    have:du g ((g.length:Int)-1-(i:Int))=some g[g.length-1-i]:=by
     unfold du;rw[cL Zb,show((g.length:Int)-1-(i:Int)).toNat=g.length-1-i by omega,mr w]
    rw[this];simp only[cG];have F:=hg _ (zf w);rw[fo (by have:=dx F;omega)];simp only[cG,AZ];rw[F3,mr w];rfl
   ·rw[cL (by simp only[Tm.dX,dK,fB];omega),cJ hi];rfl
  ·intro s b hs k hn g hg d;rw[Tm.cK] at hn d;simp only[cN] at hn d;rw[dU,cJ aae,cL abG,Tm.iR,cJ Zk,cL rfl,Tm.SG];simp only[Tm.ds,Tm.cX,dc,fL,cG,ec];rw[di aaV,cM,m b Zb k (g++[s]) (hg.app hs) aaV];have J:=λh=>(kX _ b (jM _) k (g++[s]) (hg.app hs) (b.ty (g++[s])).1 (qN h)).2;generalize b.ty (g++[s])=q at J;obtain⟨r,e⟩:=q;simp only[cI,Cv]
   by_cases G:e=0
   ·subst G;have K:r.err=0:=J rfl;have H:=dx hs;have M:=dx K;rw[cJ Zk,cJ aae,fu Zb Zb];simp only[cG];rw[wL (t:=Ty.fn s r) (by rw[Ty.fR];omega) (Ty.ok_two (.inr rfl) (Ty.gq hs).1 (Ty.gq K).1),Ty.fR]
    split<;>rfl
   ·rw[cL (by simpa[dI] using G),cL G];rfl
  ·intro a b j k hn g hg d;rw[Tm.cK] at hn d;simp only[cN] at hn d;rw[dU,cJ aae,cJ aae,Tm.iR,cJ Zk,cJ Zk];simp only[cO,Tm.cX,cQ (l:=[a,b]) aae,cM];rw[ju [a,b] 0 [] (by intro x f;simp at f;rcases f with rfl|rfl<;>first|exact m _ Zb j g hg Zb|exact m _ Zb k g hg Zb) aae];rcases uP j k hg with⟨e,he,h⟩|⟨s,t,h,hs,D⟩
   ·rw[h];rfl
   ·rw[h,jw];simp only[cG,cR,dL,eo];rw[cL abG];simp only[k9,dc,ef,fL,iU,cG]
    by_cases o:s.afo=4
    ·obtain⟨x,y,rfl,f,hy⟩:=BQ hs o;rw[cJ (by simp[Ty.fn,dI]),show(Ty.fn x y).afp[0]?=some x from rfl];simp only[cG];rw[fm (by have:=dx f;omega)];simp only[cG]
     by_cases A:x=t
     ·subst A;rw[gb,cJ Zk,show(Ty.fn x y).afp[1]?=some y from rfl,(sH (x:=.fn x y) (y:=x)).1 ⟨rfl,rfl⟩];rfl
     ·rw[hU A,cL Zk,(sH (x:=.fn x y) (y:=t)).2 (λh=>A h.2)];rfl
    ·rw[cL (by simpa[dI] using o),cL trivial,sH.2 (λh=>o h.1)];rfl
  ·intro hn g hg d;rw[Tm.iR,cJ Zk,cJ Zk,Tm.nJ];rfl
  ·intro a j hn g hg d;rw[Tm.cK] at hn d;simp only[cN] at hn d;rw[dU,cJ aae,cJ aae,Tm.iR,cJ Zk,cJ Zk];simp only[cO,Tm.cX,cQ (l:=[a]) aae,cM];rw[ju [a] 0 [] (by intro x f;simp at f;subst f;exact m _ Zb j g hg Zb) aae];rcases uV j hg with⟨e,he,h⟩|⟨s,h,hs⟩
   ·rw[h];rfl
   ·rw[h,jw];simp only[cG,cR,dL,eo];rw[cJ aae,cJ aae,cL abG];simp only[k9,dc,fL,cG];rw[fm (by have:=dx hs;omega)];simp only[cG]
    by_cases B:s=.nat
    ·subst B;rw[gb,cL rfl,xW.1 rfl]
    ·rw[hU B,cJ Zk,xW.2 B];rfl
  ·intro s a b c hs j k E hn g hg d;rw[Tm.cK] at hn d;simp only[cN] at hn d;rw[dU,cJ aae,cJ aae,Tm.iR,cJ Zk,cJ Zk];simp only[cO,Tm.cX,cQ (l:=[a,b,c]) aae,cM];rw[ju [a,b,c] 0 [] (by intro x f;simp at f;rcases f with rfl|rfl|rfl<;>first|exact m _ Zb j g hg Zb|exact m _ Zb k g hg Zb|exact m _ Zb E g hg Zb) aae];rcases tO j k E hg with⟨e,he,h⟩|⟨x,y,z,h,f,hy,I⟩
   ·rw[h];rfl
   ·have H:=dx hs;rw[h,jw];simp only[cG,cR,dL,eo];rw[cJ aae,cJ aae,cJ aae,cL abG];simp only[k9,dc,ef,fD,fL,iU,cG,Tm.ds];rw[fm (by have:=dx f;omega)];simp only[cG]
    by_cases u:x=s
    ·subst u;rw[gb,cL rfl,fu Zb Zb];simp only[cG];rw[fu (by rw[Ty.eM];omega) (by rw[Ty.fR];omega)];simp only[cG];rw[fm (by have:=dx hy;omega)];simp only[cG]
     by_cases v:y=.fn .nat (.fn x x)
     ·subst v;rw[gb,cL rfl,fm (by have:=dx I;omega)];simp only[cG]
      by_cases C:z=.nat
      ·subst C;rw[gb,cJ Zk,fo Zb,oJ.1 ⟨rfl,rfl,rfl⟩];rfl
      ·rw[hU C,cL Zk,oJ.2 (λh=>C h.2.2)];rfl
     ·rw[hU v,cJ Zk,cL trivial,oJ.2 (λh=>v h.2.1)];rfl
    ·rw[hU u,cJ Zk,cL trivial,oJ.2 (λh=>u h.1)];rfl
  ·intro hn g hg d;rw[Tm.iR,cJ Zk,cJ Zk,Tm.nJ];rfl
  ·intro a b j k hn g hg d;rw[Tm.cK] at hn d;simp only[cN] at hn d;rw[dU,cJ aae,cJ aae,Tm.iR,cJ Zk,cJ Zk];simp only[cO,Tm.cX,cQ (l:=[a,b]) aae,cM];rw[ju [a,b] 0 [] (by intro x f;simp at f;rcases f with rfl|rfl<;>first|exact m _ Zb j g hg Zb|exact m _ Zb k g hg Zb) aae];rcases uP j k hg with⟨e,he,h⟩|⟨s,t,h,hs,D⟩
   ·rw[h];rfl
   ·rw[h,jw];simp only[cG,cR,dL,eo];rw[cJ aae,cJ aae,cJ aae,cJ aae,cJ aae,cL abG];simp only[k9,dc,ef,fL,iU,cG];rw[fm (by have:=dx hs;omega)];simp only[cG]
    by_cases u:s=.nat
    ·subst u;rw[gb,cL rfl,fm (by have:=dx D;omega)];simp only[cG]
     by_cases v:t=.hS
     ·subst v;rw[gb,cJ Zk,so.1 ⟨rfl,rfl⟩]
     ·rw[hU v,cL Zk,so.2 (λh=>v h.2)];rfl
    ·rw[hU u,cJ Zk,cL trivial,so.2 (λh=>u h.1)];rfl
  ·intro s a b c hs j k E hn g hg d;rw[Tm.cK] at hn d;simp only[cN] at hn d;rw[dU,cJ aae,cJ aae,Tm.iR,cJ Zk,cJ Zk];simp only[cO,Tm.cX,cQ (l:=[a,b,c]) aae,cM];rw[ju [a,b,c] 0 [] (by intro x f;simp at f;rcases f with rfl|rfl|rfl<;>first|exact m _ Zb j g hg Zb|exact m _ Zb k g hg Zb|exact m _ Zb E g hg Zb) aae];rcases tO j k E hg with⟨e,he,h⟩|⟨x,y,z,h,f,hy,I⟩
   ·rw[h];rfl
   ·have H:=dx hs;rw[h,jw];simp only[cG,cR,dL,eo];rw[cJ aae,cJ aae,cJ aae,cJ aae,cJ aae,cJ aae,cL abG];simp only[k9,dc,ef,fD,fL,iU,cG,Tm.ds];rw[fm (by have:=dx f;omega)];simp only[cG]
    by_cases u:x=s
    ·subst u;rw[gb,cL rfl,fu Zb Zb];simp only[cG];rw[fu (by rw[Ty.jR];omega) (by rw[Ty.fR];omega)];simp only[cG];rw[fu (by rw[Ty.eM];omega) (by rw[Ty.fR,Ty.fR,Ty.jR];omega)];simp only[cG];rw[fm (by have:=dx hy;omega)];simp only[cG]
     by_cases v:y=.fn .nat (.fn .hS (.fn x x))
     ·subst v;rw[gb,cL rfl,fm (by have:=dx I;omega)];simp only[cG]
      by_cases C:z=.hS
      ·subst C;rw[gb,cJ Zk,fo Zb,oN.1 ⟨rfl,rfl,rfl⟩];rfl
      ·rw[hU C,cL Zk,oN.2 (λh=>C h.2.2)];rfl
     ·rw[hU v,cJ Zk,cL trivial,oN.2 (λh=>v h.2.1)];rfl
    ·rw[hU u,cJ Zk,cL trivial,oN.2 (λh=>u h.1)];rfl
  ·intro a b j k hn g hg d;rw[Tm.cK] at hn d;simp only[cN] at hn d;rw[dU,cJ aae,cJ aae,Tm.iR,cJ Zk,cJ Zk];simp only[cO,Tm.cX,cQ (l:=[a,b]) aae,cM];rw[ju [a,b] 0 [] (by intro x f;simp at f;rcases f with rfl|rfl<;>first|exact m _ Zb j g hg Zb|exact m _ Zb k g hg Zb) aae];rcases uP j k hg with⟨e,he,h⟩|⟨s,t,h,hs,D⟩
   ·rw[h];rfl
   ·have H:=dx hs;have M:=dx D;rw[h,jw];simp only[cG,cR,dL,eo];rw[cJ aae,cJ aae,cJ aae,cJ aae,cJ aae,cJ aae,cJ aae,cL abG];simp only[k9,dc,ef,fL,iU,cG];rw[qz Zb Zb];simp only[cG];rw[wL (t:=Ty.pr s t) (by rw[Ty.nS];omega) (Ty.ok_two (.inl rfl) (Ty.gq hs).1 (Ty.gq D).1),Ty.nS];rw[Ct]
    split<;>rfl
  ·intro a j hn g hg d;rw[Tm.cK] at hn d;simp only[cN] at hn d;rw[dU,cJ aae,cJ aae,Tm.iR,cJ Zk,cJ Zk];simp only[cO,Tm.cX,cQ (l:=[a]) aae,cM];rw[ju [a] 0 [] (by intro x f;simp at f;subst f;exact m _ Zb j g hg Zb) aae];rcases uV j hg with⟨e,he,h⟩|⟨s,h,hs⟩
   ·rw[h];rfl
   ·rw[h,jw];simp only[cG,cR,dL,eo];rw[cJ aae,cJ aae,cJ aae,cJ aae,cJ aae,cJ aae,cJ aae,cJ aae,cL abG];simp only[k9,dc,fL,cG];rw[CH]
    by_cases o:s.afo=3
    ·obtain⟨x,y,rfl,f,hy⟩:=sF hs o;rw[cJ (by simp[Ty.pr,dI]),cL abG,cL (show(Ty.pr x y).afo=3 from rfl)];rfl
    ·rw[cL (by simpa[dI] using o),cJ o];rfl
  ·intro a j hn g hg d;rw[Tm.cK] at hn d;simp only[cN] at hn d;rw[dU,cJ aae,cJ aae,Tm.iR,cJ Zk,cJ Zk];simp only[cO,Tm.cX,cQ (l:=[a]) aae,cM];rw[ju [a] 0 [] (by intro x f;simp at f;subst f;exact m _ Zb j g hg Zb) aae];rcases uV j hg with⟨e,he,h⟩|⟨s,h,hs⟩
   ·rw[h];rfl
   ·rw[h,jw];simp only[cG,cR,dL,eo];rw[cJ aae,cJ aae,cJ aae,cJ aae,cJ aae,cJ aae,cJ aae,cJ aae,cL abG];simp only[k9,dc,fL,cG];rw[CE]
    by_cases o:s.afo=3
    ·obtain⟨x,y,rfl,f,hy⟩:=sF hs o;rw[cJ (by simp[Ty.pr,dI]),cJ aae,cL (show(Ty.pr x y).afo=3 from rfl)];rfl
    ·rw[cL (by simpa[dI] using o),cJ o];rfl
  ·intro hn g hg d;rw[Tm.iR,cJ Zk,cJ Zk,Tm.nJ];rfl
end Go.eD
namespace Go.eD
open Go
def zV:fG=eG:=by
 funext n
 induction n with
 |zero=>rfl|succ n c=>
  funext a b
  rw[fG,eG,c]
def kh{a b:Ty}(h:a.afq<=1000000000):fG FU a b=some (a.fX b):=by rw[zV];exact fm h
def mi(t:Ty):cU:=⟨t,(t.afq:Int)⟩
def HW:cU:=⟨.mk 0 [],0⟩
def zu(r:Ty×Int):cU×Int:=if r.2=0 then(mi r.1,0)else(HW,r.2)
@[simp] theorem kj(t:Ty):zu (t,0)=(mi t,0):=cL rfl
def hI{t:Ty}{e:Int}(h:e≠0):zu (t,e)=(HW,e):=cJ h
@[simp] theorem nK(t:Ty):(mi t).cW=t:=by rfl
@[simp] theorem Av(t:Ty):(mi t).afq=(t.afq:Int):=by rfl
theorem gK{t:Ty}(h:t.err=0):nF t=some (mi t):=by
 unfold nF;rw[hD (by have:=dx h;omega),cL h];rfl
def r6(k:Int){a b:Ty}(c:a.afq<=1000000)(d:b.afq<=1000000):tk k (mi a) (mi b)=some (if 64<1+a.afq+b.afq then(HW,4)else(mi (.mk k [a,b]),0)):=by
 unfold tk;simp only[Av,nK];rw[dk (a:=1) Zb Zb,dk Zb Zb]
 by_cases h:64<1+a.afq+b.afq
 ·rw[cL (by simp only[eb];omega),cL h];rfl
 ·rw[cJ (by simp only[eb];omega),cJ h];unfold mi;rw[Ty.sd]
  congr 3
theorem lP{a b:Ty}(c:a.afq<=1000000):lV (mi a) (mi b)=some (a.fX b):=by
 unfold lV;simp only[cO,Av,nK]
 by_cases h:(a.afq:Int)=(b.afq:Int)
 ·rw[cL (by simpa[dC] using h),kh Zb];rfl
 ·rw[cJ (by simpa[dC] using h),hU (by rintro rfl;exact h rfl)]
def lO{t x:Ty}{i:Int}(h:du t.afp i=some x)(a:x.err=0):k6 (mi t) i=some (mi x):=by
 unfold k6;simp only[nK,h,cG,gK a]
def oU:s7=some .nat:=rfl
def Bt:BW=some .hS:=rfl
def Ii{l:List Ty}(d:l.length<=1000):∀(i m:Nat) (k:Int) (as:List Ty),i<=l.length->i<m->ow ((J9 λ(a:Int) (v49:Int) (b:List Ty)=>
   if(sS a 0) then(
   cH (du l a) λc=>
   some (.next ((eH .i64 a 1),4,[c,(Ty.mk v49 b)])))
   else(some (.DN (a,v49,b)))):(Int×Int×(List Ty))->(Option (eK (Int×Int×(List Ty)) (Ty)))) m ((i:Int)-1,k,as)=some (.inl (-1,((l.take i).foldr Ty.fn (.mk k as)).afo,((l.take i).foldr Ty.fn (.mk k as)).afp))
 |0,m+1,k,as,_,_=>by
  rw[jL];simp only[J9];rw[cJ (by rw[fB];omega)];rfl
 |i+1,m+1,k,as,hi,hm=>by
  rw[jL];simp only[J9];rw[cL (by rw[fB];omega),show((i+1:Nat):Int)-1=(i:Int) by omega,fw,mr Zb];simp only[cG,dt];rw[dF Zb Zb];have h:=Ii d i m 4 [l[i],.mk k as] Zb Zb;rw[h,UE,mr Zb];simp only[Vm,VT,Vv,VS];rfl
def rC(t:Ty)(l:List Ty)(a:l.length<=1000):mO t l=some (l.foldr Ty.fn t):=by
 unfold mO;simp only[cO];rw[dK,dF Zb Zb];have h:=Ii a l.length FU t.afo t.afp (jM _) (NA Zb);rw[h,cG];rw[Vn]
 have e:Ty.mk t.afo t.afp=t:=by cases t;rfl
 rw[e];generalize List.foldr Ty.fn t l=r;cases r;rfl
def Hf(a b t:Ty):mO t [a,b]=some (.fn a (.fn b t)):=rC t [a,b] aae
def Hj(a b c t:Ty):mO t [a,b,c]=some (.fn a (.fn b (.fn c t))):=rC t [a,b,c] aae
def G2(a t:Ty):mO t [a]=some (.fn a t):=rC t [a] aae
def my:List Ty->cU×cU×cU
 |[]=>(HW,HW,HW)|[a]=>(mi a,HW,HW)|[a,b]=>(mi a,mi b,HW)|a::b::c::_=>(mi a,mi b,mi c)
def wz(x:cU)(k:Int):mh x k=some (dC x.cW.afo k):=rfl
def wF(t:Ty)(k:Int):dC (mi t).cW.afo k=decide (t.afo=k):=by
 rw[nK];exact nq _ _
def w9(s:Ty)(l:List Tm)(i:Int):oo (.mk 6 i s l)=some (.fn .nat (.fn s s)):=by
 unfold oo;rw[cJ aae];simp only[oU,cG];rw[Hf];rfl
def v7(s:Ty)(l:List Tm)(i:Int):oo (.mk 9 i s l)=some (.fn .nat (.fn .hS (.fn s s))):=by
 unfold oo;rw[cL aae];simp only[oU,Bt,cG];rw[Hj];rfl
section
variable{s x y z:Ty} {i:Int} {l:List Tm}
def I'(f:x.err=0)(hy:y.err=0):et (.mk 3 i s l) (my [x,y])=some (zu (eO 3 s [x,y])):=by
 unfold et;rw[show hJ (Tm.mk 3 i s l).afo=some [] from rfl];simp only[cG];rw[cJ aae,cL abG];simp only[cO,my,wz,cG,wF]
 by_cases d:x.afo=4
 ·obtain⟨a,b,rfl,e,g⟩:=BQ f d;rw[cL abG,lO (t:=.fn a b) (x:=a) rfl e];simp only[cG];rw[lP (by have:=dx e;omega)];simp only[cG]
  by_cases c:a=y
  ·subst c;rw[gb,cJ aae,lO (t:=.fn a b) (x:=b) rfl g,(sH (x:=.fn a b) (y:=a)).1 ⟨rfl,rfl⟩];simp only[cG];rw[show(Ty.fn a b).afp.getD 1 .z=b from rfl,kj]
  ·rw[hU c,cL aae,(sH (x:=.fn a b) (y:=y)).2 (λh=>c h.2),hI Zk];rfl
 ·rw[cJ (by simpa using d),cL trivial,sH.2 (λh=>d h.1),hI Zk];rfl
def GL(a:x.err=0)(hy:y.err=0):et (.mk 10 i s l) (my [x,y])=some (zu (eO 10 s [x,y])):=by
 unfold et;rw[show hJ (Tm.mk 10 i s l).afo=some [] from rfl];simp only[cG];rw[cJ aae,cJ aae,cJ aae,cL abG];simp only[my];rw[r6 3 (by have:=dx a;omega) (by have:=dx hy;omega),Ct]
 split
 ·simp only[cI];rw[hI Zk]
 ·simp only[cI];rw[kj];rfl
def Ja(d:x.err=0):et (.mk 11 i s l) (my [x])=some (zu (eO 11 s [x])):=by
 unfold et;rw[show hJ (Tm.mk 11 i s l).afo=some [] from rfl];simp only[cG];rw[cJ aae,cJ aae,cJ aae,cJ aae];simp only[my,wz,cG,wF];rw[CH]
 by_cases c:x.afo=3
 ·obtain⟨a,b,rfl,e,f⟩:=sF d c;rw[cL abG,cL abG,lO (t:=.pr a b) (x:=a) rfl e,cL (show(Ty.pr a b).afo=3 from rfl)];simp only[cG];rw[show(Ty.pr a b).afp.getD 0 .z=a from rfl,kj]
 ·rw[cJ (by simpa using c),cJ c,hI Zk];rfl
def IK(d:x.err=0):et (.mk 12 i s l) (my [x])=some (zu (eO 12 s [x])):=by
 unfold et;rw[show hJ (Tm.mk 12 i s l).afo=some [] from rfl];simp only[cG];rw[cJ aae,cJ aae,cJ aae,cJ aae];simp only[my,wz,cG,wF];rw[CE]
 by_cases c:x.afo=3
 ·obtain⟨a,b,rfl,f,e⟩:=sF d c;rw[cL abG,cJ aae,lO (t:=.pr a b) (x:=b) rfl e,cL (show(Ty.pr a b).afo=3 from rfl)];simp only[cG];rw[show(Ty.pr a b).afp.getD 1 .z=b from rfl,kj]
 ·rw[cJ (by simpa using c),cJ c,hI Zk];rfl
end
end Go.eD
namespace Go.eD
open Go
section
variable{s x y z:Ty} {i:Int} {l:List Tm}
def rQ{k t:Int}(a:hJ k=some [t])(b:Ty.err (.mk t [])=0):et (.mk k i s l) (my [])=some (mi (.mk t []),0):=by
 unfold et;rw[show(Tm.mk k i s l).afo=k from rfl,a,cG,cL (show pc (dT [t]) 0=true by rfl),show wO [t] 1 (dT [t])=some ([]:List Int)from rfl];simp only[cG,cQ (l:=([]:List Int)) aae,cM,cO,lz,cR,dc,fL];rw[gK b];rfl
def Hb:et (.mk 4 i s l) (my [])=some (zu (eO 4 s [])):=rQ rfl Ty.ek
def JC:et (.mk 7 i s l) (my [])=some (zu (eO 7 s [])):=rQ rfl Ty.jD
def Gu:et (.mk 13 i s l) (my [])=some (zu (eO 13 s [])):=rQ rfl Ty.yz
def G8(b:x.err=0):et (.mk 5 i s l) (my [x])=some (zu (eO 5 s [x])):=by
 unfold et;rw[show hJ (Tm.mk 5 i s l).afo=some [1,1] from rfl,cG,cL (show pc (dT ([1,1]:List Int)) 0=true by rfl),show wO ([1,1]:List Int) 1 (dT ([1,1]:List Int))=some [1] from rfl];simp only[cG,cQ (l:=([1]:List Int)) aae,cM,cO,my];rw[dq,cL abG];simp only[wz,cG,wF]
 by_cases a:x.afo=1
 ·have hn:=(og b).1 a;subst hn;rw[qb abG,cJ Zk];simp only[cG,dt,lz,cR,dc,fL];rw[show nF (Ty.mk 1 [])=some (mi .nat)from gK Ty.ek,xW.1 rfl,kj];rfl
 ·rw[xY a,cL Zk,xW.2 (λh=>a ((og b).2 h)),hI Zk];rfl
def Gs(c:x.err=0)(hy:y.err=0):et (.mk 8 i s l) (my [x,y])=some (zu (eO 8 s [x,y])):=by
 unfold et;rw[show hJ (Tm.mk 8 i s l).afo=some [2,1,2] from rfl,cG,cL (show pc (dT ([2,1,2]:List Int)) 0=true by rfl),show wO ([2,1,2]:List Int) 1 (dT ([2,1,2]:List Int))=some [1,2] from rfl];simp only[cG,cQ (l:=([1,2]:List Int)) aae,cM,cO,my];rw[dq,cL abG];simp only[wz,cG,wF]
 by_cases b:x.afo=1
 ·have hn:=(og c).1 b;subst hn;rw[qb abG,cJ Zk];simp only[cG,dt];rw[dq,cJ Zk,cL abG]
  by_cases a:y.afo=2
  ·have hn:=(ve hy).1 a;subst hn;rw[qb abG,cJ Zk];simp only[cG,dt,lz,cR,dc,fL];rw[show nF (Ty.mk 2 [])=some (mi .hS)from gK Ty.jD,so.1 ⟨rfl,rfl⟩,kj];rfl
  ·rw[xY a,cL Zk,so.2 (λh=>a ((ve hy).2 h.2)),hI Zk];rfl
 ·rw[xY b,cL Zk,so.2 (λh=>b ((og c).2 h.1)),hI Zk];rfl
def Jd(hs:s.err=0)(d:x.err=0)(hy:y.err=0)(e:z.err=0):et (.mk 6 i s l) (my [x,y,z])=some (zu (eO 6 s [x,y,z])):=by
 unfold et;rw[show hJ (Tm.mk 6 i s l).afo=some [] from rfl];simp only[cG];rw[cJ Zk,cJ aae,cL abG];simp only[cO,my,Tm.ds,gK hs,cG];rw[lP (by have:=dx d;omega)];simp only[cG]
 by_cases a:x=s
 ·subst a;rw[gb,cL rfl,w9];simp only[cG,nK];rw[kh (by have:=dx hy;omega)];simp only[cG]
  by_cases b:y=.fn .nat (.fn x x)
  ·subst b;rw[gb,cL rfl];simp only[wz,cG];rw[show fp (dC (Tm.mk 6 i x l).afo 9) (2:Int) 1=1 from rfl];simp only[wF]
   by_cases c:z=.nat
   ·subst c;rw[qb abG,cJ Zk,oJ.1 ⟨rfl,rfl,rfl⟩,kj]
   ·rw[xY (λh=>c ((og e).1 h)),cL Zk,oJ.2 (λh=>c h.2.2),hI Zk];rfl
  ·rw[hU b,cJ Zk,cL trivial,oJ.2 (λh=>b h.2.1),hI Zk];rfl
 ·rw[hU a,cJ Zk,cL trivial,oJ.2 (λh=>a h.1),hI Zk];rfl
def Gn(hs:s.err=0)(d:x.err=0)(hy:y.err=0)(e:z.err=0):et (.mk 9 i s l) (my [x,y,z])=some (zu (eO 9 s [x,y,z])):=by
 unfold et;rw[show hJ (Tm.mk 9 i s l).afo=some [] from rfl];simp only[cG];rw[cJ Zk,cJ aae,cL abG];simp only[cO,my,Tm.ds,gK hs,cG];rw[lP (by have:=dx d;omega)];simp only[cG]
 by_cases a:x=s
 ·subst a;rw[gb,cL rfl,v7];simp only[cG,nK];rw[kh (by have:=dx hy;omega)];simp only[cG]
  by_cases b:y=.fn .nat (.fn .hS (.fn x x))
  ·subst b;rw[gb,cL rfl];simp only[wz,cG];rw[show fp (dC (Tm.mk 9 i x l).afo 9) (2:Int) 1=2 from rfl];simp only[wF]
   by_cases c:z=.hS
   ·subst c;rw[qb abG,cJ Zk,oN.1 ⟨rfl,rfl,rfl⟩,kj]
   ·rw[xY (λh=>c ((ve e).1 h)),cL Zk,oN.2 (λh=>c h.2.2),hI Zk];rfl
  ·rw[hU b,cJ Zk,cL trivial,oN.2 (λh=>b h.2.1),hI Zk];rfl
 ·rw[hU a,cJ Zk,cL trivial,oN.2 (λh=>a h.1),hI Zk];rfl
end
def Ni(p:cU×cU×cU):Int×(List Ty)×Int×Int×(List Ty)×Int×Int×(List Ty)×Int:=
 (p.1.cW.afo,p.1.cW.afp,p.1.afq,p.2.1.cW.afo,p.2.1.cW.afp,p.2.1.afq,p.2.2.cW.afo,p.2.2.cW.afp,p.2.2.afq)
def wG{n:Nat}{g:List Ty}:∀(l:List Tm) (d:List Ty),d.length+l.length<=3->(∀a∈l,dz n (g.map mi) a=some (zu (a.ty g)))->eg (λ(f:Int) (x:Tm)=>(Wi λ(i:Int) (j:List Ty) (v218:Int) (k:Int) (m:List Ty) (o:Int) (v222:Int) (p:List Ty) (q:Int)=>
   c0 (dz n (g.map mi) x) λc s=>
   if(dI s 0) then(
   some (.ret ((cU.mk (Ty.mk 0 []) 0),s)))
   else(if(dC f 0) then(
   some (.next (c.cW.afo,c.cW.afp,c.afq,k,m,o,v222,p,q)))
   else(if(dC f 1) then(
   some (.next (i,j,v218,c.cW.afo,c.cW.afp,c.afq,v222,p,q)))
   else(fU (dC f 2)<|some (.next (i,j,v218,k,m,o,c.cW.afo,c.cW.afp,c.afq)))))):Int->Tm->(Int×(List Ty)×Int×Int×(List Ty)×Int×Int×(List Ty)×Int)->(Option (eK (Int×(List Ty)×Int×Int×(List Ty)×Int×Int×(List Ty)×Int) (cU×Int)))) l d.length (Ni (my d))=some (match Tm.nJ l g with|.inl ts=>.inl (Ni (my (d++ts)))|.inr e=>.inr (HW,e))
 |[],d,_,_=>by simp[Tm.nJ]|a::l,d,y,h=>by
  simp only[hQ] at y;rw[dq,Tm.nJ];have B:=h a aae;simp only[Ni,Wi];rw[B]
  by_cases w:(a.ty g).2=0
  ·rw[qN w,kE rfl,kj,cI,cJ Zk];generalize (a.ty g).1=t
   have go:∀A:List Ty,A=d++[t]->(some (eK.next (Ni (my A))):Option (eK (Int×(List Ty)×Int×Int×(List Ty)×Int×Int×(List Ty)×Int) (cU×Int)))=some (eK.next (Ni (my (d++[t])))):=λA e=>by rw[e]
   have z:=wG l (d++[t]) aaV (λb C=>h b (by simp[C]));rw[oG,hQ,o7] at z
   have fin:(some (match Tm.nJ l g with|.inl ts=>.inl (Ni (my (d++[t]++ts)))|.inr e=>.inr (HW,e)):Option ((Int×(List Ty)×Int×Int×(List Ty)×Int×Int×(List Ty)×Int)⊕(cU×Int)))=some (match(match Tm.nJ l g with|.inl ts=>Sum.inl (t::ts)|.inr e=>Sum.inr e:List Ty⊕Int)with|.inl ts=>.inl (Ni (my (d++ts)))|.inr e=>.inr (HW,e)):=by
    cases Tm.nJ l g with
    |inl ts=>simp|inr e=>rfl
   match d,y with
   |[],_=>
    rw[cL abG];exact z.trans fin
   |[u],_=>
    rw[cJ aae,cL abG];exact z.trans fin
   |[u,v],_=>
    rw[cJ aae,cJ aae,show dC (([u,v].length:Nat):Int) 2=true from rfl,cM];exact z.trans fin
   |_::_::_::_,y=>simp at y;omega
  ·rw[kD w];generalize a.ty g=r at w;obtain⟨t,e⟩:=r;simp only at w;rw[hI w,cI,cL (by simpa[dI] using w)];rfl
def Ld(p:cU×cU×cU):((cU.mk (Ty.mk p.1.cW.afo p.1.cW.afp) p.1.afq),(cU.mk (Ty.mk p.2.1.cW.afo p.2.1.cW.afp) p.2.1.afq),(cU.mk (Ty.mk p.2.2.cW.afo p.2.2.cW.afp) p.2.2.afq))=p:=by
 have e:∀t:Ty,Ty.mk t.afo t.afp=t:=λt=>by cases t;rfl
 obtain⟨⟨a,b⟩,⟨c,d⟩,⟨g,f⟩⟩:=p;simp only[e]
def gQ{n:Nat}{g:List Ty}{k i:Int}{s:Ty}{l:List Tm}(m:k≠1)(q:k≠2)(r:l.length<=3)(h:∀a∈l,dz n (g.map mi) a=some (zu (a.ty g)))
  (hn:∀ts,Tm.nJ l g=.inl ts->et (.mk k i s l) (my ts)=some (zu (eO k s ts))):dz (n+1) (g.map mi) (.mk k i s l)=some (zu ((Tm.mk k i s l).ty g)):=by
 rw[dz,cJ (by simpa[dC] using m),cJ (by simpa[dC] using q),Tm.iR,cJ m,cJ q];simp only[cO,Tm.cX];rw[cQ Zb,cM];have f:=wG l [] (by simpa using r) h;refine(congrArg (λo=>cH o _) f).trans ?_;simp only[cG];cases j:Tm.nJ l g with
 |inr e=>
  rw[EJ]
  have he:e≠0:=by
   rcases sg l g with⟨t,d,c⟩|⟨ts,d,_⟩
   ·rw[j] at c;cases c;exact d
   ·rw[j] at d;cases d
  rw[hI he];rfl
 |inl ts=>
  simp only[k9,cR,jw,Ni,Wi];rw[Ld,hn ts j,show∀p:cU×Int,(c0 (some p) λa b=>some (a,b))=some p fromλ_=>rfl]
end Go.eD
namespace Go.eD
open Go
def rZ(g:List Ty)(s:Ty):g.map mi++[mi s]=(g++[s]).map mi:=aae
def vV:∀(n:Nat) (t:Tm),t.afq<=n->t.ok=true->∀g,fh g->g.length+t.afq<=1000000->dz n (g.map mi) t=some (zu (t.ty g)):=by
 intro n
 induction n with
 |zero=>intro t h;have:=t.da;omega
 |succ n l=>
  intro t hn B
  have one:∀{a:Tm} {g:List Ty} {ts:List Ty},a.ok=true->fh g->Tm.nJ [a] g=.inl ts->∃x,ts=[x]/\x.err=0:=by
   intro a g ts j hg h;rcases uV j hg with⟨e,_,o⟩|⟨x,o,f⟩<;>rw[h] at o<;>cases o;exact⟨x,rfl,f⟩
  have two:∀{a b:Tm} {g:List Ty} {ts:List Ty},a.ok=true->b.ok=true->fh g->Tm.nJ [a,b] g=.inl ts->∃x y,ts=[x,y]/\x.err=0/\y.err=0:=by
   intro a b g ts j k hg h;rcases uP j k hg with⟨e,_,o⟩|⟨x,y,o,f,hy⟩<;>rw[h] at o<;>cases o;exact⟨x,y,rfl,f,hy⟩
  have three:∀{a b c:Tm} {g:List Ty} {ts:List Ty},a.ok=true->b.ok=true->c.ok=true->fh g->Tm.nJ [a,b,c] g=.inl ts->∃x y z,ts=[x,y,z]/\x.err=0/\y.err=0/\z.err=0:=by
   intro a b c g ts j k m hg h;rcases tO j k m hg with⟨e,_,o⟩|⟨x,y,z,o,f,hy,u⟩<;>rw[h] at o<;>cases o;exact⟨x,y,z,rfl,f,hy,u⟩
  refine Tm.jJ (p:=λt=>t.afq<=n+1->∀g,fh g->g.length+t.afq<=1000000->dz (n+1) (g.map mi) t=some (zu (t.ty g))) ?_ ?_ ?_ ?_ ?_ ?_ ?_ ?_ ?_ ?_ ?_ ?_ ?_ t B hn
  ·intro i _ g hg k;rw[Tm.cK] at k;rw[dz,cL abG,Tm.iR,cL rfl];simp only[Tm.dX,dK,EB]
   by_cases hi:(i:Int)<(g.length:Int)
   ·rw[cJ (by simp only[fB];omega),cL hi];rw[dF (a:=(g.length:Int)) Zb Zb,dF Zb Zb]
    have v:g.length-1-i<g.length:=Zb
    have:du (g.map mi) ((g.length:Int)-1-(i:Int))=some (mi g[g.length-1-i]):=by
     unfold du;rw[cL Zb,show((g.length:Int)-1-(i:Int)).toNat=g.length-1-i by omega,x_,mr v];rfl
    rw[this];simp only[cG,AZ];rw[F3,mr v];exact congrArg some (kj _).symm
   ·rw[cL (by simp only[fB];omega),cJ hi,hI Zk];rfl
  ·intro s b hs k hn g hg d;rw[Tm.cK] at hn d;simp only[cN] at hn d;rw[dz,cJ aae,cL abG,Tm.iR,cJ Zk,cL rfl,Tm.SG];simp only[Tm.ds,Tm.cX,gK hs,dc,fL,cG,ec];rw[di aaV,cM,rZ,l b Zb k (g++[s]) (hg.app hs) aaV];have A:=λh=>(kX _ b (jM _) k (g++[s]) (hg.app hs) (b.ty (g++[s])).1 (qN h)).2;generalize b.ty (g++[s])=q at A;obtain⟨r,e⟩:=q;simp only[Cv]
   by_cases w:e=0
   ·subst w;have C:r.err=0:=A rfl;have D:=dx hs;have E:=dx C;rw[kj,cI,cJ Zk,cJ aae,r6 4 Zb Zb]
    by_cases m:64<1+s.afq+r.afq
    ·rw[cL m,cL m,hI Zk];rfl
    ·rw[cJ m,cJ m,kj];rfl
   ·rw[hI w,cI,cL (by simpa[dI] using w),cL w,hI w];rfl
  ·intro a b j k hn g hg d;rw[Tm.cK] at hn d;simp only[cN] at hn d;refine gQ Zk Zk aae (by intro x f;simp at f;rcases f with rfl|rfl<;>first|exact l _ Zb j g hg Zb|exact l _ Zb k g hg Zb) (λts h=>?_);obtain⟨x,y,rfl,f,hy⟩:=two j k hg h;exact I' f hy
  ·intro hn g hg d;exact gQ Zk Zk aae aae (λts h=>by rw[Tm.nJ] at h;cases h;exact Hb)
  ·intro a j hn g hg d;rw[Tm.cK] at hn d;simp only[cN] at hn d;refine gQ Zk Zk aae (by intro x f;simp at f;subst f;exact l _ Zb j g hg Zb) (λts h=>?_);obtain⟨x,rfl,f⟩:=one j hg h;exact G8 f
  ·intro s a b c hs j k m hn g hg d;rw[Tm.cK] at hn d;simp only[cN] at hn d;refine gQ Zk Zk aae (by intro x f;simp at f;rcases f with rfl|rfl|rfl<;>first|exact l _ Zb j g hg Zb|exact l _ Zb k g hg Zb|exact l _ Zb m g hg Zb) (λts h=>?_);obtain⟨x,y,z,rfl,f,hy,u⟩:=three j k m hg h;exact Jd hs f hy u
  ·intro hn g hg d;exact gQ Zk Zk aae aae (λts h=>by rw[Tm.nJ] at h;cases h;exact JC)
  ·intro a b j k hn g hg d;rw[Tm.cK] at hn d;simp only[cN] at hn d;refine gQ Zk Zk aae (by intro x f;simp at f;rcases f with rfl|rfl<;>first|exact l _ Zb j g hg Zb|exact l _ Zb k g hg Zb) (λts h=>?_);obtain⟨x,y,rfl,f,hy⟩:=two j k hg h;exact Gs f hy
  ·intro s a b c hs j k m hn g hg d;rw[Tm.cK] at hn d;simp only[cN] at hn d;refine gQ Zk Zk aae (by intro x f;simp at f;rcases f with rfl|rfl|rfl<;>first|exact l _ Zb j g hg Zb|exact l _ Zb k g hg Zb|exact l _ Zb m g hg Zb) (λts h=>?_);obtain⟨x,y,z,rfl,f,hy,u⟩:=three j k m hg h;exact Gn hs f hy u
  ·intro a b j k hn g hg d;rw[Tm.cK] at hn d;simp only[cN] at hn d;refine gQ Zk Zk aae (by intro x f;simp at f;rcases f with rfl|rfl<;>first|exact l _ Zb j g hg Zb|exact l _ Zb k g hg Zb) (λts h=>?_);obtain⟨x,y,rfl,f,hy⟩:=two j k hg h;exact GL f hy
  ·intro a j hn g hg d;rw[Tm.cK] at hn d;simp only[cN] at hn d;refine gQ Zk Zk aae (by intro x f;simp at f;subst f;exact l _ Zb j g hg Zb) (λts h=>?_);obtain⟨x,rfl,f⟩:=one j hg h;exact Ja f
  ·intro a j hn g hg d;rw[Tm.cK] at hn d;simp only[cN] at hn d;refine gQ Zk Zk aae (by intro x f;simp at f;subst f;exact l _ Zb j g hg Zb) (λts h=>?_);obtain⟨x,rfl,f⟩:=one j hg h;exact IK f
  ·intro hn g hg d;exact gQ Zk Zk aae aae (λts h=>by rw[Tm.nJ] at h;cases h;exact Gu)
def pZ{t:Tm}{g:List Ty}(a:t.ok=true)(hg:fh g)(b:g.length+t.afq<=1000000):dz FU (g.map mi) t=some (zu (t.ty g)):=
 vV FU t (by have:=dn;omega) a g hg b
noncomputable def jb (t:Tm) (g:List Ty) (k:Int):Int:=if(t.ty g).2=0/\(t.ty g).1.afo≠k then 7 else(t.ty g).2
def tw{t:Tm}{g:List Ty}(k:Int)(c:t.ok=true)(hg:fh g)(d:g.length+t.afq<=1000000):gX (g.map mi) t k=some (jb t g k):=by
 unfold gX jb;rw[pZ c hg d];generalize t.ty g=q;obtain⟨r,e⟩:=q
 by_cases a:e=0
 ·subst a;rw[kj,cI];simp only[cO];rw[cL abG,wz,cG,wF]
  by_cases b:r.afo=k
  ·rw[qb b,cJ Zk,cJ (λh=>h.2 b)]
  ·rw[xY b,cL Zk,cL ⟨trivial,b⟩]
 ·rw[hI a,cI];simp only[cO];rw[cJ (by simpa[dC] using a),cJ Zk,cJ (λh=>a h.1)]
def pC{t:Tm}{g:List Ty}(a:t.ok=true)(hg:fh g)(b:g.length+t.afq<=1000000):gV (g.map mi) t=some (jb t g 1):=by
 unfold gV;rw[tw 1 a hg b];rfl
mutual
noncomputable def Fm.nI:Fm->List Ty->Int
 |.mk k s ts l,g=>if dB (ts.map λt=>jb t g 1)=0 then Fm.IE l (if gv k then g++[s] else g)else dB (ts.map λt=>jb t g 1)
noncomputable def Fm.IE:List Fm->List Ty->Int
 |[],_=>0|f::l,g=>if f.nI g=0 then Fm.IE l g else f.nI g
end
def Fm.FG(g:List Ty):∀l:List Fm,Fm.IE l g=dB (l.map λf=>f.nI g)
 |[]=>by rw[Fm.IE];rfl|f::l=>by rw[Fm.IE,Fm.FG g l];rfl
def Fm.m5(k:Int)(s:Ty)(ts:List Tm)(l:List Fm)(g:List Ty):(Fm.mk k s ts l).nI g=if dB (ts.map λt=>jb t g 1)=0 then dB (l.map λf=>f.nI (if gv k then g++[s] else g))else dB (ts.map λt=>jb t g 1):=by
 rw[Fm.nI,Fm.FG]
def rA{t:Tm}{g:List Ty}(a:t.ok=true)(hn:t.afq<=4096)(hg:fh g)(b:g.length<=900000):pQ g t=some (t.ty g):=by
 unfold pQ;have hw:=t.eY a;rw[hY Zb]
 have he:t.err=0:=by unfold Tm.err;rw[cL a,cJ Zb]
 rw[he];simp only[cG];rw[cJ Zk,rH FU t (by have:=dn;omega) a g hg Zb];rfl
def AI{t:Tm}{g:List Ty}(f:t.ok=true)(hn:t.afq<=4096)(hg:fh g)(i:g.length<=900000):(c0 (pQ g t) λd a=>if(dI a 0) then(some (.ret a))else(if(dI d.afo 1) then(some (.ret 7))else(some (.next ()))):Option (eK Unit Int))=
   if jb t g 1≠0 then some (.ret (jb t g 1))else some (.next ()):=by
 rw[rA f hn hg i];unfold jb;generalize t.ty g=q;obtain⟨r,e⟩:=q;simp only[cI,cP]
 by_cases b:e=0
 ·subst b
  by_cases c:r.afo=1
  ·rw[cJ aae,cJ (by simp[c]),cJ (show¬((0:Int)=0/\r.afo≠1)fromλh=>h.2 c),cJ aae]
  ·rw[cJ aae,cL c,cL (show(0:Int)=0/\r.afo≠1 from⟨rfl,c⟩),cL Zk]
 ·rw[cL b,cJ (show¬(e=0/\r.afo≠1)fromλh=>b h.1),cL b]
def mw{e:Int}:(cH (some e) λa=>if(dI a 0) then(some (.ret a))else(some (.next ())):Option (eK Unit Int))=if e≠0 then some (.ret e)else some (.next ()):=by
 rw[cG]
 by_cases h:e=0
 ·subst h;rfl
 ·rw[cL (by simpa[dI] using h),cL h]
def oa{l:List Int}{k:Unit⊕Int->Option Int}(h:k=gC (λ_=>some 0) (λr=>some r)):cH (if dB l=0 then some (.inl ())else some (.inr (dB l))) k=some (dB l):=by
 subst h
 by_cases h:dB l=0
 ·rw[cL h,h];rfl
 ·rw[cJ h];rfl
def rD(f:Fm)(v:f.ok=true):∀n,f.afq<=n->∀g,fh g->g.length+f.afq<=900000->f.afq<=4096->lD n g f=some (f.nI g):=by
 refine Fm.jJ (p:=λf=>∀n,f.afq<=n->∀g,fh g->g.length+f.afq<=900000->f.afq<=4096->lD n g f=some (f.nI g)) ?_ ?_ ?_ f v
 ·intro a b l u n hn g hg c d;rw[Fm.cK] at hn c d;simp only[cN] at hn c d;obtain⟨n,rfl⟩:∃m,n=m+1:=⟨n-1,Zb⟩;rw[lD,Fm.m5];simp only[cO,Fm.eF,Fm.cX,Fm.c8,hR,cG]
  rw[cQ aae,cM,gI (λt=>jb t g 1) [a,b] 0 (λj x e=>by
   simp only[gT,H9,kv] at e;rcases e with rfl|rfl
   ·exact AI l Zb hg Zb
   ·exact AI u Zb hg Zb)]
  rw[show gv 1=false from rfl]
  by_cases h:dB ([a,b].map λt=>jb t g 1)=0
  ·rw[cL h,cL h];rfl
  ·rw[cJ h,cJ h];rfl
 ·intro k a b o l u i q n hn g hg c d;rw[Fm.cK] at hn c d;simp only[cN] at hn c d;obtain⟨n,rfl⟩:∃m,n=m+1:=⟨n-1,Zb⟩
  have r:gv k=false:=by rcases o with rfl|rfl<;>rfl
  rw[lD,Fm.m5];simp only[cO,Fm.eF,Fm.cX,Fm.c8,hR,cG,r,h9,dB]
  rw[cQ aae,cM,lz,cG,cR,cJ Zk,cL trivial,cQ aae,cM,gI (λf=>f.nI g) [a,b] 0 (λj x e=>by
   simp only[gT,H9,kv] at e;rcases e with rfl|rfl
   ·rw[i n Zb g hg Zb Zb];exact mw
   ·rw[q n Zb g hg Zb Zb];exact mw)]
  exact oa rfl
 ·intro k s a o hs l i n hn g hg c d;rw[Fm.cK] at hn c d;simp only[cN] at hn c d;obtain⟨n,rfl⟩:∃m,n=m+1:=⟨n-1,Zb⟩
  have r:gv k=true:=by rcases o with rfl|rfl|rfl|rfl<;>rfl
  rw[lD,Fm.m5];simp only[cO,Fm.eF,Fm.cX,Fm.c8,Fm.ds,hR,cG,r,h9,dB];rw[cQ aae,cM,lz,cG,cR];simp only[if_true]
  rw[di aaV,cM,ec,cQ aae,cM,gI (λf=>f.nI (g++[s])) [a] 0 (λj x e=>by
   simp only[gT,H9,kv] at e;subst e
   rw[i n Zb (g++[s]) (hg.app hs) aaV Zb];exact mw)]
  exact oa rfl
def lE{g:List Ty}{s:Ty}(hs:s.err=0)(a:g.length<=900000):fi (g.map mi) [s]=some ((g++[s]).map mi):=by
 unfold fi oO;simp only[cO];rw[cQ aae,cM,dq,gK hs];simp only[cG];rw[di aae,cM];simp only[cG,dt,lz,cR,ec,k9];rw[di aaV,cM,rZ]
def wJ{t:Tm}{g:List Ty}(b:t.ok=true)(hn:t.afq<=4096)(hg:fh g)(c:g.length<=900000):(cH (gV (g.map mi) t) λa=>if(dI a 0) then(some (.ret a))else(some (.next ())):Option (eK Unit Int))=if jb t g 1≠0 then some (.ret (jb t g 1))else some (.next ()):=by
 rw[pC b hg Zb];exact mw
def oT(f:Fm)(A:f.ok=true):∀n,f.afq<=n->∀g,fh g->g.length+f.afq<=900000->f.afq<=4096->dE n (g.map mi) f=some (f.nI g):=by
 refine Fm.jJ (p:=λf=>∀n,f.afq<=n->∀g,fh g->g.length+f.afq<=900000->f.afq<=4096->dE n (g.map mi) f=some (f.nI g)) ?_ ?_ ?_ f A
 ·intro a b u y n hn g hg c d;rw[Fm.cK] at hn c d;simp only[cN] at hn c d;obtain⟨n,rfl⟩:∃m,n=m+1:=⟨n-1,Zb⟩;rw[dE,Fm.m5];simp only[cO,Fm.eF,Fm.cX]
  rw[cJ aae,cJ aae,cJ aae,cQ aae,cM,gI (λt=>jb t g 1) [a,b] 0 (λj x e=>by
   simp only[gT,H9,kv] at e;rcases e with rfl|rfl
   ·exact wJ u Zb hg Zb
   ·exact wJ y Zb hg Zb)]
  rw[oa rfl]
  by_cases h:dB ([a,b].map λt=>jb t g 1)=0
  ·rw[cL h,h];rfl
  ·rw[cJ h]
 ·intro k a b l u y o v n hn g hg c d;rw[Fm.cK] at hn c d;simp only[cN] at hn c d;obtain⟨n,rfl⟩:∃m,n=m+1:=⟨n-1,Zb⟩
  have w:gv k=false:=by rcases l with rfl|rfl<;>rfl
  have B:fp (dC k 4) true (dC k 5)=false:=by rcases l with rfl|rfl<;>rfl
  have k2:fp (dC k 6) true (dC k 7)=false:=by rcases l with rfl|rfl<;>rfl
  have C:fp (dC k 2) true (dC k 3)=true:=by rcases l with rfl|rfl<;>rfl
  rw[dE,Fm.m5];simp only[cO,Fm.eF,Fm.cX,w,h9,dB];rw[cJ (by simp only[Fm.c8,B];decide),cJ (by simp only[Fm.c8,k2];decide),cL (by simp only[Fm.c8,C])];simp only[if_true,qa,jm]
  rw[cQ aae,cM,gI (λf=>f.nI g) [a,b] 0 (λj x e=>by
   simp only[gT,H9,kv] at e;rcases e with rfl|rfl
   ·rw[o n Zb g hg Zb Zb];exact mw
   ·rw[v n Zb g hg Zb Zb];exact mw)]
  exact oa rfl
 ·intro k s a l hs u o n hn g hg c d;rw[Fm.cK] at hn c d;simp only[cN] at hn c d;obtain⟨n,rfl⟩:∃m,n=m+1:=⟨n-1,Zb⟩
  have w:gv k=true:=by rcases l with rfl|rfl|rfl|rfl<;>rfl
  rw[dE,Fm.m5];simp only[cO,Fm.eF,Fm.cX,Fm.ds,w,h9,dB,lE hs (show g.length<=900000 by omega),cG,if_true]
  have fin:(fU (eQ [a])<|cH (eg (λ(z:Int) (q:Fm)=>(λ(_:Unit)=>
    cH (dE n ((g++[s]).map mi) q) λi=>
    if(dI i 0) then(
    some (.ret i))
    else(some (.next ()))):Int->Fm->(Unit)->(Option (eK (Unit) (Int)))) [a] 0 ()) (gC (λ(_:Unit)=>some 0) (λr=>some r)))=some (dB ([a].map λf=>f.nI (g++[s]))):=by
   rw[cQ aae,cM,gI (λf=>f.nI (g++[s])) [a] 0 (λj x e=>by
    simp only[gT,H9,kv] at e;subst e
    rw[o n Zb (g++[s]) (hg.app hs) aaV Zb];exact mw)]
   exact oa rfl
  rcases l with rfl|rfl|rfl|rfl
  ·rw[cL aae];exact fin
  ·rw[cL aae];exact fin
  ·rw[cJ aae,cL aae];exact fin
  ·rw[cJ aae,cL aae];exact fin
mutual
def Fm.up(f b:Int):Fm->Fm
 |.mk k s ts l=>.mk k s (ts.map (Tm.up f b)) (Fm.Mn (f+qB k) b l)
def Fm.Mn(f b:Int):List Fm->List Fm
 |[]=>[]|t::l=>t.up f b::Fm.Mn f b l
end
def Fm.D9(f b:Int)(l:List Fm):Fm.Mn f b l=l.map (Fm.up f b):=by
 induction l with
 |nil=>rfl|cons t l a=>simp[Fm.Mn,a]
theorem Fm.dV(f b k:Int)(s:Ty)(ts:List Tm)(l:List Fm):(Fm.mk k s ts l).up f b=.mk k s (ts.map (Tm.up f b)) (l.map (Fm.up (f+qB k) b)):=by rw[Fm.up,Fm.D9]
mutual
def Fm.afu(m:Int):Fm->Bool
 |.mk _ _ ts l=>ts.all (Tm.afu m)&&Fm.lj m l
def Fm.lj(m:Int):List Fm->Bool
 |[]=>true|t::l=>t.afu m&&Fm.lj m l
end
def Fm.nH(m:Int)(l:List Fm):Fm.lj m l=l.all (Fm.afu m):=by
 induction l with
 |nil=>rfl|cons t l a=>simp[Fm.lj,a]
theorem Fm.dj(m k:Int)(s:Ty)(ts:List Tm)(l:List Fm):(Fm.mk k s ts l).afu m=(ts.all (Tm.afu m)&&l.all (Fm.afu m)):=by rw[Fm.afu,Fm.nH]
mutual
def Fm.afw(a:Int):Fm->Nat
 |.mk k _ ts l=>cN (Tm.afw a) ts+Fm.qh (a+qB k) l
def Fm.qh(a:Int):List Fm->Nat
 |[]=>0|t::l=>t.afw a+Fm.qh a l
end
def Fm.vG(a:Int)(l:List Fm):Fm.qh a l=cN (Fm.afw a) l:=by
 induction l with
 |nil=>rfl|cons t l b=>simp[Fm.qh,cN,b]
def Fm.dp(a k:Int)(s:Ty)(ts:List Tm)(l:List Fm):(Fm.mk k s ts l).afw a=cN (Tm.afw a) ts+cN (Fm.afw (a+qB k)) l:=by rw[Fm.afw,Fm.vG]
mutual
def Fm.ei:Int->Fm->Tm->Fm
 |n,.mk k ty ts l,s=>.mk k ty (ts.map λx=>Tm.ei n x s) (Fm.xk (n+qB k) l s)
def Fm.xk:Int->List Fm->Tm->List Fm
 |_,[],_=>[]|n,t::l,s=>Fm.ei n t s::Fm.xk n l s
end
def Fm.A6(n:Int)(s:Tm)(l:List Fm):Fm.xk n l s=l.map (λx=>Fm.ei n x s):=by
 induction l with
 |nil=>rfl|cons t l a=>simp[Fm.xk,a]
theorem Fm.dQ(n:Int)(s:Tm)(k:Int)(ty:Ty)(ts:List Tm)(l:List Fm):Fm.ei n (Fm.mk k ty ts l) s=.mk k ty (ts.map λx=>Tm.ei n x s) (l.map λx=>Fm.ei (n+qB k) x s):=by rw[Fm.ei,Fm.A6]
def Fm.e9(t:Fm):∀a,t.afw a<=t.afq:=by
 induction t using Fm.ind with
 |h k s ts l b=>
  intro a;rw[Fm.dp,Fm.cK];have:=gn (f:=Fm.afw (a+qB k)) (g:=Fm.afq) (l:=l) λx c=>b x c _;have:=gn (f:=Tm.afw a) (g:=Tm.afq) (l:=ts) λx _=>x.e9 _;omega
theorem Fm.jo(t:Fm):∀f b,(t.up f b).afq=t.afq:=by
 induction t using Fm.ind with
 |h k s ts l a=>
  intro f b;rw[Fm.dV,Fm.cK,Fm.cK,gx,gx,ig λx c=>a x c _ _,ig λx _=>Tm.jo x f b]
theorem Fm.yG(t:Fm):∀f b,(t.up f b).wt=t.wt:=by
 induction t using Fm.ind with
 |h k s ts l a=>
  intro f b;rw[Fm.dV,Fm.dD,Fm.dD,gx,gx,ig λx c=>a x c _ _,ig λx _=>Tm.yG x f b]
theorem Fm.re(t:Fm):∀f b,0<=f->0<=b->(t.up f b).ok=t.ok:=by
 induction t using Fm.ind with
 |h k s ts l c=>
  intro f b d a;have:=j_ k;rw[Fm.dV,Fm.eu,Fm.eu,EB,EB,o8 λx e=>c x e (f+qB k) b Zb a,o8 λx _=>Tm.re x f b d a]
def CF{α:Type}{a b c:α->Nat}{m:Nat}{l:List α}(h:∀x∈l,a x+b x=c x+b x*m):cN a l+cN b l=cN c l+cN b l*m:=by
 induction l with
 |nil=>simp[cN]|cons y l d=>
  have f:=h y aae;have g:=d λx e=>h x aav;simp only[cN,zy];omega
def Fm.ky(s:Tm)(t:Fm):∀n,t.ok=true->(Fm.ei n t s).afq+t.afw n=t.afq+t.afw n*s.afq:=by
 induction t using Fm.ind with
 |h k ty ts l f=>
  intro n d;rw[Fm.eu] at d;simp only[ew,gR] at d;rw[Fm.dQ,Fm.dp,Fm.cK,Fm.cK,gx,gx,zy];have g:=CF (l:=ts) (a:=λx=>(Tm.ei n x s).afq) (b:=Tm.afw n) (c:=Tm.afq) (m:=s.afq) λx e=>Tm.ky s x n (d.1.2 x e);have i:=CF (l:=l) (a:=λx=>(Fm.ei (n+qB k) x s).afq) (b:=Fm.afw (n+qB k)) (c:=Fm.afq) (m:=s.afq) λx e=>f x e _ (d.2 x e);omega
def uI{t:Tm}(m:Int)(h:t.afq<=1000000000):kc FU t m=some (t.afu m):=oh FU t m (by rw[dn];exact h) h
def tF:∀(n:Nat) (t:Fm) (m:Int),t.afq<=n->t.afq<=1000000000->oV n t m=some (t.afu m):=by
 intro n
 induction n with
 |zero=>intro t m h;have:=t.da;omega
 |succ n c=>
  intro t m h d;cases t with
  |mk k s ts l=>
   rw[Fm.cK] at h d;have g:=Fm.dH l;have e:=Tm.dH ts
   have f:eg (ρ:=Bool) (λ(_:Int) (x:Tm) (_:Unit)=>cH (kc FU x m) λa=>if a then some (eK.next ())else some (eK.ret false)) ts 0 ()=if ts.all (Tm.afu m) then some (.inl ())else some (.inr false):=by
    refine jU (Tm.afu m) _ ts 0 ?_;intro j x b;have:=cV Tm.afq b;rw[uI m Zb];rfl
   have k2:eg (ρ:=Bool) (λ(_:Int) (x:Fm) (_:Unit)=>cH (oV n x m) λa=>if a then some (eK.next ())else some (eK.ret false)) l 0 ()=if l.all (Fm.afu m) then some (.inl ())else some (.inr false):=by
    refine jU (Fm.afu m) _ l 0 ?_;intro j x b;have:=cV Fm.afq b;rw[c x m Zb Zb];rfl
   rw[oV];simp only[Fm.cX,Fm.eF,cO,cQ (l:=l) Zb,cQ (l:=ts) Zb,cM,f,k2,Fm.dj];cases i:ts.all (Tm.afu m)<;>cases o:l.all (Fm.afu m)<;>simp
def lX:∀(n:Nat) (t:Fm) (f b:Int),t.afq<=n->t.afq<=1000000000->0<=f->f+t.afq<=10000000000->0<=b->b<=10000000000->t.afu 1000000000000=true->fl n t f b=some (t.up f b):=by
 intro n
 induction n with
 |zero=>intro t f b h;have:=t.da;omega
 |succ n o=>
  intro t f b h d p e i a hi;cases t with
  |mk k s ts l=>
   rw[Fm.cK] at h d e;rw[Fm.dj] at hi;simp only[ew,gR] at hi;have r:=Fm.dH l;have q:=Tm.dH ts;have u:=j_ k;rw[fl];simp only[Fm.cX,Fm.eF,Fm.c8,Fm.ds,cO,cQ (l:=l) Zb,cQ (l:=ts) Zb,cM];rw[eW (Tm.up f b) ts 0 [] aaV]
   ·simp only[cG,cR];rw[eW (Fm.up (f+qB k) b) l 0 [] aaV]
    ·simp[Fm.dV]
    ·intro j x v c g;have:=cV Fm.afq c;rw[km];simp only[cG,Fm.c8];rw[dk Zb Zb,o x (f+qB k) b Zb Zb Zb Zb i a (hi.2 x c)];simp[di (l:=v) (m:=[x.up (f+qB k) b]) (by simpa using g)]
   ·intro j x v c g;have:=cV Tm.afq c;rw[p8 FU x f b (by rw[dn];omega) Zb p Zb i a (hi.1 x c)];simp[di (l:=v) (m:=[x.up f b]) (by simpa using g)]
def yB:∀(n:Nat) (t:Fm) (a:Int),t.afq<=n->t.afq<=1000000000->0<=a->a+t.afq<=10000000000->pJ n t a=some (t.afw a:Int):=by
 intro n
 induction n with
 |zero=>intro t a h;have:=t.da;omega
 |succ n g=>
  intro t a h c i d;cases t with
  |mk k s ts l=>
   rw[Fm.cK] at h c d;have q:=Fm.dH l;have m:=Tm.dH ts;have r:=j_ k;have o:cN (Fm.afw (a+qB k)) l<=cN Fm.afq l:=gn λx _=>x.e9 _;have f:cN (Tm.afw a) ts<=cN Tm.afq ts:=gn λx _=>x.e9 _;rw[pJ];simp only[Fm.cX,Fm.eF,Fm.c8,cO,cQ (l:=l) Zb,cQ (l:=ts) Zb,cM]
   have p:=kf (ρ:=Int) (F:=λ(_:Int) (x:Tm) (v:Int)=>cH (lR FU x a) λy=>some (eK.next (ep .i64 v y))) (Tm.afw a) ts 0 0 Zb (by
    intro j x v e;have:=cV Tm.afq e;rw[qo FU x a (by rw[dn];omega) Zb i Zb]
    rfl)
   have k2:=kf (ρ:=Int) (F:=λ(_:Int) (x:Fm) (v:Int)=>cH (n8 (Fm.mk k s ts l)) λb=>cH (pJ n x (ep .i64 a b)) λy=>some (eK.next (ep .i64 v y))) (Fm.afw (a+qB k)) l 0 (0+cN (Tm.afw a) ts) Zb (by
    intro j x v e;have:=cV Fm.afq e;rw[km];simp only[cG,Fm.c8];rw[dk Zb Zb,g x _ Zb Zb Zb Zb]
    rfl)
   rw[show(0:Int)=((0:Nat):Int)from rfl,p];simp only[cG,cR];rw[k2];simp[Fm.dp]
def yH:∀(n:Nat) (t:Fm) (a b:Int) (s:Tm),t.afq<=n->t.afq<=1000000000->0<=a->0<=b->a+b+t.afq<=5000000000->t.afu 1000000000000=true->t.ok=true->s.afq<=1000000000->s.afu 1000000000000=true->vY n t a b s=some (Fm.ei (a+b) t s):=by
 intro n
 induction n with
 |zero=>intro t a b s h;have:=t.da;omega
 |succ n p=>
  intro t a b s h f o q g hi c hs e;cases t with
  |mk k ty ts l=>
   rw[Fm.cK] at h f g;rw[Fm.dj] at hi;rw[Fm.eu] at c;simp only[ew,gR] at hi c;have u:=Fm.dH l;have r:=Tm.dH ts;have w:=j_ k;rw[vY];simp only[Fm.cX,Fm.eF,Fm.c8,Fm.ds,cO,cQ (l:=l) Zb,cQ (l:=ts) Zb,cM];rw[eW (λx=>Tm.ei (a+b) x s) ts 0 [] aaV]
   ·simp only[cG,cR];rw[eW (λx=>Fm.ei (a+b+qB k) x s) l 0 [] aaV]
    ·simp[Fm.dQ]
    ·intro j x v d i;have:=cV Fm.afq d;rw[km];simp only[cG,Fm.c8];rw[dk Zb Zb,p x a (b+qB k) s Zb Zb o Zb Zb (hi.2 x d) (c.2 x d) hs e];rw[show a+(b+qB k)=a+b+qB k by omega];simp[di (l:=v) (m:=[Fm.ei (a+b+qB k) x s]) (by simpa using i)]
   ·intro j x v d i;have:=cV Tm.afq d;rw[uB FU x a b s (by rw[dn];omega) Zb o q Zb (hi.1 x d) (c.1.2 x d) hs e];simp[di (l:=v) (m:=[Tm.ei (a+b) x s]) (by simpa using i)]
def Fm.ir(t:Fm):∀{m n:Int},m<=n->t.afu m=true->t.afu n=true:=by
 induction t using Fm.ind with
 |h k s ts l c=>
  intro m n a h;rw[Fm.dj] at*;simp only[ew,gR] at*;exact⟨λx b=>Tm.ir x a (h.1 x b),λx b=>c x b a (h.2 x b)⟩
def eX.afu{g:List Ty}{f:Fm}(h:eX g f):∀m:Int,((g.length+f.afq:Nat):Int)<=m->f.afu m=true:=by
 induction h with
 |eq c d=>
  intro m hm;simp only[Fm.cK,cN] at hm;simp only[Fm.dj,sb,H_,BT,ew];exact⟨c.afu m Zb,d.afu m Zb⟩
 |two _ _ _ a b=>
  intro m hm;simp only[Fm.cK,cN] at hm;simp only[Fm.dj,sb,H_,BT,ew,tx];exact⟨a m Zb,b m Zb⟩
 |q _ _ _ e=>
  intro m hm;simp only[Fm.cK,cN] at hm;simp only[Fm.dj,sb,H_,BT,tx];exact e m aaV
def Tm.h8(φ:Int->Int->Tm)(b:Int):Tm->Tm
 |.mk k i s l=>if k=1 then φ i b else .mk k i s (l.attach.map λx=>Tm.h8 φ (b+dr k) x.1)
decreasing_by
 have:=R1 x.2;simp only[Tm.mk.sizeOf_spec];omega
theorem Tm.eE(φ:Int->Int->Tm)(b k i:Int)(s:Ty)(l:List Tm):(Tm.mk k i s l).h8 φ b=if k=1 then φ i b else .mk k i s (l.map (Tm.h8 φ (b+dr k))):=by
 rw[Tm.h8]
 congr 2
 exact VA
def pF(k b:Int)(a:-1000000000000<=b)(c:b<=1000000000000):fp (dC k 2) (ep .i64 b 1) b=b+dr k:=by
 unfold dr
 by_cases h:k=2
 ·subst h;rw[show dC 2 2=true from rfl,cL rfl];exact dk Zb Zb
 ·rw[show dC k 2=false by simpa[dC] using h,cJ h];show b=b+0;omega
def oP{h:Int->Int->Option Tm}{φ:Int->Int->Tm}{M:Int}(y:∀i b,0<=i->i<=M->0<=b->b<=10000000000->h i b=some (φ i b)):∀(n:Nat) (t:Tm) (b:Int),t.afq<=n->t.afq<=50000000->t.ok=true->t.afu M=true->0<=b->b+t.afq<=10000000000->fE n t b (λ(s:Unit) (g:Int) (m:Int)=>nw (h g m) s) ()=some (t.h8 φ b,()):=by
 intro n
 induction n with
 |zero=>intro t b h;have:=t.da;omega
 |succ n z=>
  intro t b hn A o p B q;cases t with
  |mk k i s l=>
   rw[Tm.cK] at hn A q;have hlen:=Tm.dH l;have e:=o;rw[Tm.eu,ew] at o;have C:=Ty.pd o.1;rw[Tm.dj,ew,FX,gR] at p;rw[fE,Tm.eE]
   by_cases r:k=1
   ·subst r;have hi:=(Tm.hE e).2.1;rw[cL abG,cL rfl];simp only[Tm.dX];rw[y i b hi p.1 B Zb,As,cI]
   ·rw[cJ (by simpa[dC] using r),cJ r];simp only[Tm.ds,Tm.cX,Tm.c8,Tm.dX,cO];rw[jS Zb,cG,cQ Zb,cM,pF k b Zb Zb];have D:=eN k
    have loop:∀(ts:List Tm) (j:Nat) (v:List Tm),(∀t∈ts,t∈l)->v.length+ts.length<=50000000->eg (λ(E:Int) (w:Tm)=>(qH λ(a:List Tm) (v107:Unit)=>
       c0 (fE n w (b+dr k) (λ(s:Unit) (g:Int) (m:Int)=>nw (h g m) s) v107) λc f=>
       fU (eZ a [c])<|some ((.next ((fK a [c]),f)):eK ((List Tm)×Unit) (Tm×Unit)))) ts j (v,())=some (.inl (v++ts.map (Tm.h8 φ (b+dr k)),())):=by
     intro ts
     induction ts with
     |nil=>intro j v _ _;simp|cons t ts x=>
      intro j v hm F;simp only[hQ] at F;have d:=hm t aae;have G:=cV Tm.afq d;rw[dq];simp only[qH];rw[z t (b+dr k) Zb Zb ((Tm.hE e).2.2.2.1 t d) (p.2 t d) Zb Zb,cI,di aaV,cM];simp only[cG,dt];rw[ec];have:=x (j+1) (v++[t.h8 φ (b+dr k)]) (λu hu=>hm u (by simp[hu])) aaV;rw[this];simp
    rw[loop l 0 [] (λt h=>h) aaV,cG];simp
structure Bd (t:Tm):Prop where
 ok:t.ok=true
 afu:t.afu 1000000000000=true
 afq:t.afq<=50000000
def Tm.BZ(f c:Int)(n:0<=f):∀(t:Tm) (b:Int),0<=b->t.ok=true->t.h8 (λi b=>.mk 1 (if f<=i-b then i+c else i) (.mk 0 []) []) b=t.up (f+b) c:=by
 intro t
 induction t using Tm.ind with
 |h k i s l g=>
  intro b o a;have hi:=Tm.hE a;rw[Tm.eE,Tm.dV]
  by_cases d:k=1
  ·subst d;rw[cL rfl]
   have j:l=[]:=by
    have:=hi.2.2.2.2;unfold eC at this;rw[cL (.inl rfl)] at this;exact Df Zb
   have hs:s=.mk 0 []:=by
    rw[Tm.eu] at a;simp only[Tm.node,ew] at a;have:=a.1.2;rw[cJ Zk] at this;exact(Ty.ik s).1 this
   subst j;subst hs;simp only[h9,ry]
   congr 1
   by_cases h:f+b<=i
   ·rw[cL h,cL Zb]
   ·rw[cJ h,cJ Zb]
  ·rw[cJ d,cJ (λh=>d h.1)];have m:=eN k
   congr 1
   exact pg λx e=>by rw[g x e (b+dr k) Zb (hi.2.2.2.1 x e),show f+(b+dr k)=f+b+dr k by omega]
def uY{t:Tm}{f c:Int}(h:Bd t)(d:0<=f)(e:f<=10000000000)(m:0<=c)(g:c<=10000000000):qF t f c=some (t.up f c):=by
 unfold qF oA;rw[oP (h:=λj k=>vb j k f c) (φ:=λi b=>.mk 1 (if f<=i-b then i+c else i) (.mk 0 []) []) (M:=1000000000000) (λi b n o p q=>?_) FU t 0 (by have:=dn;have:=h.afq;omega) h.afq h.ok h.afu Zb (by have:=h.afq;omega)]
 ·rw[cI,cI,Tm.BZ f c d t 0 Zb h.ok,show f+0=f by omega]
 ·unfold vb hX;simp only[cG];rw[dF Zb Zb,dk Zb Zb]
  by_cases a:f<=i-b
  ·rw[cL a,show sS (i-b) f=true by rw[fB];exact a];rfl
  ·rw[cJ a,show sS (i-b) f=false by
    cases l:sS (i-b) f with
    |false=>rfl|true=>exact absurd ((fB _ _).1 l) a];rfl
def jv(k:Int):oq k=some (gv k):=by
 unfold oq gv;rw[ku];simp only[sS,Mu,zq];rw[<-aag];exact vR.2 (by simp only[FX];omega)
def Fm.kZ{k:Int}{s:Ty}{ts:List Tm}{l:List Fm}(h:(Fm.mk k s ts l).ok=true):s.afq<=64/\(∀t∈ts,t.ok=true)/\(∀f∈l,f.ok=true):=by
 rw[Fm.eu] at h;simp only[ew,gR] at h;refine⟨?_,h.1.2,h.2⟩;have hn:=h.1.1;unfold Fm.node at hn
 split at hn
 ·simp only[ew] at hn;rw[(Ty.ik s).1 hn.1.1,Ty.cK];simp[cN]
 ·split at hn
  ·simp only[ew] at hn;rw[(Ty.ik s).1 hn.1.1,Ty.cK];simp[cN]
  ·simp only[ew,j8] at hn;exact dx hn.1.1.2
def Fm.h8(ψ:Tm->Int->Tm)(b:Int):Fm->Fm
 |.mk k s ts l=>.mk k s (ts.map λt=>ψ t b) (l.attach.map λx=>Fm.h8 ψ (b+qB k) x.1)
decreasing_by
 have:=R1 x.2;simp only[Fm.mk.sizeOf_spec];omega
theorem Fm.eE(ψ:Tm->Int->Tm)(b k:Int)(s:Ty)(ts:List Tm)(l:List Fm):(Fm.mk k s ts l).h8 ψ b=.mk k s (ts.map λt=>ψ t b) (l.map (Fm.h8 ψ (b+qB k))):=by
 rw[Fm.h8]
 congr 1
 exact VA
def jB{h:Tm->Int->Option Tm}{ψ:Tm->Int->Tm}(J:∀t b,Bd t->0<=b->b<=1000000000->h t b=some (ψ t b)):∀(n:Nat) (f:Fm) (b:Int),f.afq<=n->f.afq<=50000000->f.ok=true->f.afu 1000000000000=true->0<=b->b+f.afq<=1000000000->dR n f b (λ(s:Unit) (q:Tm) (w:Int)=>nw (h q w) s) ()=some (f.h8 ψ b,()):=by
 intro n
 induction n with
 |zero=>intro f b h;have:=f.da;omega
 |succ n K=>
  intro f b hn L M A N B;cases f with
  |mk k s ts l=>
   rw[Fm.cK] at hn L B;have O:=er Tm.afq ts λt _=>t.da;have P:=er Fm.afq l λt _=>t.da;obtain⟨Q,C,D⟩:=Fm.kZ M;rw[Fm.dj,ew,gR,gR] at A;rw[dR,Fm.eE];simp only[Fm.ds,Fm.cX,Fm.c8,Fm.eF,cO];rw[jS Zb,cG,cQ Zb,cM];have R:=j_ k
   have m:∀(us:List Tm) (j:Nat) (v:List Tm),(∀t∈us,t∈ts)->v.length+us.length<=50000000->eg (λ(S:Int) (E:Tm)=>(qH λ(v91:List Tm) (F:Unit)=>
      c0 (nw (h E b) F) λi x=>
      fU (eZ v91 [i])<|some ((.next ((fK v91 [i]),x)):eK ((List Tm)×Unit) (Fm×Unit)))) us j (v,())=some (.inl (v++us.map (λt=>ψ t b),())):=by
    intro us
    induction us with
    |nil=>intro j v _ _;simp|cons t us o=>
     intro j v hm G;simp only[hQ] at G;have d:=hm t aae;have H:=cV Tm.afq d;rw[dq];simp only[qH];rw[J t b ⟨C t d,A.1 t d,Zb⟩ N Zb,As,cI,di aaV,cM];simp only[cG,dt];rw[ec];have:=o (j+1) (v++[ψ t b]) (λu hu=>hm u (by simp[hu])) aaV;rw[this];simp
   rw[m ts 0 [] (λt h=>h) aaV,cG];simp only[cR,qH];rw[jv,cG]
   have p:∀(us:List Fm) (j:Nat) (v:List Fm),(∀t∈us,t∈l)->v.length+us.length<=50000000->eg (λ(y:Int) (e:Fm)=>(qH λ(a:List Fm) (v212:Unit)=>
      c0 (dR n e (b+qB k) (λ(s:Unit) (q:Tm) (w:Int)=>nw (h q w) s) v212) λc g=>
      fU (eZ a [c])<|some ((.next ((fK a [c]),g)):eK ((List Fm)×Unit) (Fm×Unit)))) us j (v,())=some (.inl (v++us.map (Fm.h8 ψ (b+qB k)),())):=by
    intro us
    induction us with
    |nil=>intro j v _ _;simp|cons t us o=>
     intro j v hm G;simp only[hQ] at G;have d:=hm t aae;have H:=cV Fm.afq d;rw[dq];simp only[qH];rw[K t (b+qB k) Zb Zb (D t d) (A.2 t d) Zb Zb,cI,di aaV,cM];simp only[cG,dt];rw[ec];have:=o (j+1) (v++[t.h8 ψ (b+qB k)]) (λu hu=>hm u (by simp[hu])) aaV;rw[this];simp
   have fin:(fU (eQ l)<|cH (eg (λ(y:Int) (e:Fm)=>(qH λ(a:List Fm) (v212:Unit)=>
      c0 (dR n e (b+qB k) (λ(s:Unit) (q:Tm) (w:Int)=>nw (h q w) s) v212) λc g=>
      fU (eZ a [c])<|some ((.next ((fK a [c]),g)):eK ((List Fm)×Unit) (Fm×Unit)))) l 0 ([],())) (gC (qH λ(a:List Fm) (v212:Unit)=>some ((Fm.mk k s ([]++ts.map λt=>ψ t b) a),v212)) (λr=>some r)))=some (Fm.mk k s (ts.map λt=>ψ t b) (l.map (Fm.h8 ψ (b+qB k))),()):=by
    rw[cQ Zb,cM,p l 0 [] (λt h=>h) aaV,cG];simp
   by_cases z:gv k=true
   ·rw[cL z]
    have I:b+qB k=b+1:=by unfold qB;rw[cL z]
    rw[I] at fin|-;rw[dk Zb Zb];exact fin
   ·rw[cJ z]
    have I:b+qB k=b:=by unfold qB;rw[cJ z];omega
    rw[I] at fin|-;exact fin
def Fm.BZ(f c:Int):∀(g:Fm) (b:Int),g.h8 (λt b=>t.up (f+b) c) b=g.up (f+b) c:=by
 intro g
 induction g using Fm.ind with
 |h k s ts l a=>
  intro b;rw[Fm.eE,Fm.dV]
  congr 1
  exact pg λx d=>by rw[a x d (b+qB k),show f+(b+qB k)=f+b+qB k by omega]
def nc{g:Fm}{f c:Int}(d:g.ok=true)(hn:g.afq<=50000000)(e:g.afu 1000000000000=true)(m:0<=f)(i:f<=1000000000)(j:0<=c)(a:c<=10000000000):ee g f c=some (g.up f c):=by
 unfold ee;rw[jB (h:=λk l=>mT k l f c) (ψ:=λt b=>t.up (f+b) c) (λt b h n o=>?_) FU g 0 (by have:=dn;omega) hn d e Zb Zb]
 ·rw[cI,Fm.BZ f c g 0,show f+0=f by omega]
 ·unfold mT;rw[dk Zb Zb,uY h Zb Zb j a];rfl
def Tm.IZ{i:Int}{s:Ty}{l:List Tm}(a:(Tm.mk 1 i s l).ok=true):l=[]/\s=.mk 0 []:=by
 have hi:=Tm.hE a;constructor
 ·have:=hi.2.2.2.2;unfold eC at this;rw[cL (.inl rfl)] at this;exact Df Zb
 ·rw[Tm.eu] at a;simp only[Tm.node,ew] at a;have:=a.1.2;rw[cJ Zk] at this;exact(Ty.ik s).1 this
def DX(a:Int)(s:Tm)(i b:Int):Tm:=if i-b=a then s.up 0 (a+b)else if a<i-b then .mk 1 (i-1) (.mk 0 []) [] else .mk 1 i (.mk 0 []) []
def Tm.zh(a:Int)(s:Tm):∀(t:Tm) (b:Int),t.ok=true->t.h8 (DX a s) b=Tm.ei (a+b) t s:=by
 intro t
 induction t using Tm.ind with
 |h k i ty l j=>
  intro b d;have hi:=Tm.hE d;rw[Tm.eE,Tm.dQ]
  by_cases c:k=1
  ·subst c;obtain⟨rfl,rfl⟩:=Tm.IZ d;rw[cL rfl,cL rfl];unfold DX Tm.jO
   by_cases e:i-b=a
   ·rw[cL e,cL Zb]
   ·rw[cJ e,cJ (show¬i=a+b by omega)]
    by_cases f:a<i-b
    ·rw[cL f,cL Zb]
    ·rw[cJ f,cJ Zb]
  ·rw[cJ c,cJ c]
   congr 1
   exact pg λx g=>by rw[j x g (b+dr k) (hi.2.2.2.1 x g),show a+(b+dr k)=a+b+dr k by omega]
def yq(s:Tm):Prop:=∀c,0<=c->c<=10000000000->qF s 0 c=some (s.up 0 c)
def Bd.lift{s:Tm}(h:Bd s):yq s:=λc a b=>uY h Zb Zb a b
def CB{t s:Tm}{a:Int}(h:Bd t)(hs:yq s)(K:0<=a)(D:a<=1000000000):BM t a s=some (Tm.ei a t s):=by
 unfold BM oA;have hn:=h.afq
 have key:∀(n:Nat) (t:Tm) (b:Int),t.afq<=n->t.afq<=50000000->t.ok=true->t.afu 1000000000000=true->0<=b->b+t.afq<=1000000000->fE n t b (λ(f:Unit) (m:Int) (g:Int)=>nw (l6 m g a s) f) ()=fE n t b (λ(f:Unit) (m:Int) (g:Int)=>nw (if g<=1000000000 then l6 m g a s else some (DX a s m g)) f) ():=by
  intro n
  induction n with
  |zero=>intro t b h;have:=t.da;omega
  |succ n E=>
   intro t b hn r F C G y;cases t with
   |mk k i ty l=>
    rw[Tm.cK] at hn r y;rw[Tm.dj,ew,FX,gR] at C;have hi:=Tm.hE F;have H:=eN k;rw[fE,fE]
    by_cases z:k=1
    ·subst z;rw[cL abG,cL abG,cL Zb]
    ·rw[cJ (by simpa[dC] using z),cJ (by simpa[dC] using z)];simp only[Tm.ds,Tm.cX,Tm.c8,Tm.dX,cO];rw[pF k b Zb Zb]
     have loop:∀(ts:List Tm) (j:Nat) (v:List Tm),(∀t∈ts,t∈l)->eg (λ(A:Int) (p:Tm)=>(qH λ(d:List Tm) (v107:Unit)=>
        c0 (fE n p (b+dr k) (λ(f:Unit) (m:Int) (g:Int)=>nw (l6 m g a s) f) v107) λe o=>
        fU (eZ d [e])<|some ((.next ((fK d [e]),o)):eK ((List Tm)×Unit) (Tm×Unit)))) ts j (v,())=eg (λ(A:Int) (p:Tm)=>(qH λ(d:List Tm) (v107:Unit)=>
        c0 (fE n p (b+dr k) (λ(f:Unit) (m:Int) (g:Int)=>nw (if g<=1000000000 then l6 m g a s else some (DX a s m g)) f) v107) λe o=>
        fU (eZ d [e])<|some ((.next ((fK d [e]),o)):eK ((List Tm)×Unit) (Tm×Unit)))) ts j (v,()):=by
      intro ts
      induction ts with
      |nil=>intro j v _;rfl|cons t ts B=>
       intro j v hm;have q:=hm t aae;have I:=cV Tm.afq q;rw[dq,dq];simp only[qH];rw[E t (b+dr k) Zb Zb (hi.2.2.2.1 t q) (C.2 t q) Zb Zb]
       congr 1
       funext c
       cases c with
       |next st=>
        obtain⟨J,u⟩:=st;exact B (j+1) J (λu hu=>hm u (by simp[hu]))
       |_=>rfl
     rw[loop l 0 [] (λt h=>h)]
 rw[key FU t 0 (by have:=dn;omega) hn h.ok h.afu Zb Zb];rw[oP (h:=λm g=>if g<=1000000000 then l6 m g a s else some (DX a s m g)) (φ:=DX a s) (M:=1000000000000) (λi b G L N O=>?_) FU t 0 (by have:=dn;omega) h.afq h.ok h.afu Zb Zb]
 ·rw[cI,cI,Tm.zh a s t 0 h.ok,show a+0=a by omega]
 ·by_cases r:b<=1000000000
  ·rw[cL r];unfold l6 hX DX;rw[dF Zb Zb,dk Zb Zb]
   by_cases w:i-b=a
   ·rw[cL (by simpa[dC] using w),cL w,hs _ Zb Zb];rfl
   ·rw[cJ (by simpa[dC] using w),cJ w]
    by_cases x:a<i-b
    ·rw[cL (by rw[eb];exact x),cL x,dF Zb Zb];rfl
    ·rw[cJ (by rw[eb];exact x),cJ x];rfl
  ·rw[cJ r]
def Fm.zh(a:Int)(s:Tm):∀(g:Fm) (b:Int),g.h8 (λt b=>Tm.ei (a+b) t s) b=Fm.ei (a+b) g s:=by
 intro g
 induction g using Fm.ind with
 |h k ty ts l c=>
  intro b;rw[Fm.eE,Fm.dQ]
  congr 1
  exact pg λx d=>by rw[c x d (b+qB k),show a+(b+qB k)=a+b+qB k by omega]
def n7{g:Fm}{s:Tm}{a:Int}(B:g.ok=true)(hn:g.afq<=50000000)(I:g.afu 1000000000000=true)(hs:yq s)(P:0<=a)(J:a<=100000000):k8 g a s=some (Fm.ei a g s):=by
 unfold k8
 have key:∀(n:Nat) (f:Fm) (b:Int),f.afq<=n->f.afq<=50000000->f.ok=true->0<=b->b+f.afq<=100000000->dR n f b (λ(i:Unit) (p:Tm) (m:Int)=>nw (gM p m a s) i) ()=dR n f b (λ(i:Unit) (p:Tm) (m:Int)=>nw (if m<=100000000 then gM p m a s else some (Tm.ei (a+m) p s)) i) ():=by
  intro n
  induction n with
  |zero=>intro f b h;have:=f.da;omega
  |succ n K=>
   intro f b hn C B L E;cases f with
   |mk k ty ts l=>
    rw[Fm.cK] at hn C E;obtain⟨_,_,F⟩:=Fm.kZ B;have M:=j_ k;rw[dR,dR];simp only[Fm.ds,Fm.cX,Fm.c8,Fm.eF,cO,cL (show b<=100000000 by omega),jv,cG]
    have loop:∀(us:List Fm) (j:Nat) (v:List Fm) (x:Int),0<=x->x+cN Fm.afq l<=100000000->(∀t∈us,t∈l)->eg (λ(y:Int) (q:Fm)=>(qH λ(d:List Fm) (v212:Unit)=>
       c0 (dR n q x (λ(i:Unit) (p:Tm) (m:Int)=>nw (gM p m a s) i) v212) λe w=>
       fU (eZ d [e])<|some ((.next ((fK d [e]),w)):eK ((List Fm)×Unit) (Fm×Unit)))) us j (v,())=eg (λ(y:Int) (q:Fm)=>(qH λ(d:List Fm) (v212:Unit)=>
       c0 (dR n q x (λ(i:Unit) (p:Tm) (m:Int)=>nw (if m<=100000000 then gM p m a s else some (Tm.ei (a+m) p s)) i) v212) λe w=>
       fU (eZ d [e])<|some ((.next ((fK d [e]),w)):eK ((List Fm)×Unit) (Fm×Unit)))) us j (v,()):=by
     intro us
     induction us with
     |nil=>intro j v x _ _ _;rfl|cons t us G=>
      intro j v x z H hm;have A:=hm t aae;have N:=cV Fm.afq A;rw[dq,dq];simp only[qH];rw[K t x Zb Zb (F t A) z Zb]
      congr 1
      funext c
      cases c with
      |next st=>
       obtain⟨O,u⟩:=st;exact G (j+1) O x z H (λu hu=>hm u (by simp[hu]))
      |_=>rfl
    congr 1
    funext Q
    congr 1
    congr 1
    funext o
    cases o with
    |inr r=>rfl|inl st=>
     obtain⟨v,u⟩:=st;simp only[cR,qH]
     by_cases D:gv k=true
     ·rw[cL D,cL D,dk Zb Zb];rw[show(([]:List Fm),u)=([],())from rfl,loop l 0 [] (b+1) Zb Zb (λt h=>h)]
     ·rw[cJ D,cJ D];rw[show(([]:List Fm),u)=([],())from rfl,loop l 0 [] b Zb Zb (λt h=>h)]
 rw[key FU g 0 (by have:=dn;omega) hn B Zb Zb];rw[jB (h:=λp m=>if m<=100000000 then gM p m a s else some (Tm.ei (a+m) p s)) (ψ:=λt b=>Tm.ei (a+b) t s) (λt b h L R=>?_) FU g 0 (by have:=dn;omega) hn B I Zb Zb]
 ·rw[cI,Fm.zh a s g 0,show a+0=a by omega]
 ·by_cases C:b<=100000000
  ·rw[cL C];unfold gM;rw[dk Zb Zb,CB h hs Zb Zb];rfl
  ·rw[cJ C]
def xn{a i b c:Int}(d:-1000000000000000<=i)(e:i<=1000000000000000)(f:0<=b)(g:b<=10000000000)(j:0<=c)(k:c<=10000000000):mV i b a c=some (c+if i-b=a then 1 else 0):=by
 unfold mV;rw[dF Zb Zb]
 by_cases h:i-b=a
 ·rw[cL (by simpa[dC] using h),cL h,dk Zb Zb]
 ·rw[cJ (by simpa[dC] using h),cJ h,ka]
def xb(a:Int):∀(n:Nat) (t:Tm) (b c:Int),t.afq<=n->t.afq<=50000000->t.ok=true->t.afu 1000000000000=true->0<=b->b+t.afq<=1000000000->0<=c->c+t.afq<=1000000000->h_ n t b (λ(s:Int) (f:Int) (g:Int)=>mV f g a s) c=some (c+(t.afw (a+b):Int)):=by
 intro n
 induction n with
 |zero=>intro t b c h;have:=t.da;omega
 |succ n y=>
  intro t b c hn z A w B m x C;cases t with
  |mk k i s l=>
   rw[Tm.cK] at hn z m C;have hlen:=Tm.dH l;have hi:=Tm.hE A;rw[Tm.dj,ew,FX,gR] at w;have D:=eN k;rw[h_,Tm.dp];simp only[cO]
   have loop:∀(ts:List Tm) (j:Nat) (v:Int),(∀t∈ts,t∈l)->0<=v->v+cN Tm.afq ts<=1000000000->eg (λ(E:Int) (o:Tm)=>(λ(v28:Int)=>
      cH (h_ n o (b+dr k) (λ(s:Int) (f:Int) (g:Int)=>mV f g a s) v28) λp=>
      some ((.next p):eK Int Int))) ts j v=some (.inl (v+(cN (Tm.afw (a+b+dr k)) ts:Int))):=by
    intro ts
    induction ts with
    |nil=>intro j v _ _ _;simp[cN]|cons t ts q=>
     intro j v hm v0 v1;simp only[cN] at v1|-;have d:=hm t aae;have F:=cV Tm.afq d;have G:=t.e9 (a+b+dr k);rw[dq,y t (b+dr k) v Zb Zb (hi.2.2.2.1 t d) (w.2 t d) Zb Zb v0 Zb,show a+(b+dr k)=a+b+dr k by omega];simp only[cG,dt];rw[q (j+1) _ (λu hu=>hm u (by simp[hu])) Zb Zb]
     congr 2
     push_cast
     omega
   by_cases r:k=1
   ·subst r;rw[cL (show dC (Tm.mk 1 i s l).afo 1=true from rfl)];simp only[Tm.cX,Tm.c8,Tm.dX];rw[xn Zb Zb B Zb x Zb,cG,pF 1 b Zb Zb,cQ Zb,cM];rw[loop l 0 _ (λt h=>h) (by split<;>omega) (by split<;>omega)];simp only[cG,cR]
    congr 1
    by_cases e:i-b=a
    ·rw[cL e,cL (show True/\i=a+b from⟨trivial,Zb⟩)];omega
    ·rw[cJ e,cJ (show¬(True/\i=a+b)fromλh=>e Zb)];omega
   ·rw[cJ (show¬dC (Tm.mk k i s l).afo 1=true by simpa[dC] using r),cJ (show¬(k=1/\i=a+b)fromλh=>r h.1)];simp only[Tm.cX,Tm.c8,Tm.dX];rw[pF k b Zb Zb,cQ Zb,cM];rw[loop l 0 c (λt h=>h) x Zb];simp only[cG,cR]
    congr 1
    push_cast
    omega
def tp{t:Tm}(a:Int)(h:Bd t):vm t a=some (t.afw a:Int):=by
 unfold vm si;have hn:=h.afq;rw[xb a FU t 0 0 (by have:=dn;omega) hn h.ok h.afu Zb Zb Zb Zb];simp only[cG];rw[show a+0=a by omega,NN]
def sY{a:Int}(U:0<=a)(H:a<=100000000):∀(n:Nat) (f:Fm) (b c:Int),f.afq<=n->f.afq<=50000000->f.ok=true->f.afu 1000000000000=true->0<=b->b+f.afq<=100000000->0<=c->c+f.afq<=1000000000->mI n f b (λ(s:Int) (p:Tm) (q:Int)=>iI p q s a) c=some (c+(f.afw (a+b):Int)):=by
 intro n
 induction n with
 |zero=>intro f b c h;have:=f.da;omega
 |succ n I=>
  intro f b c hn J K r V w L M;cases f with
  |mk k s ts l=>
   rw[Fm.cK] at hn J w M;have N:=er Tm.afq ts λt _=>t.da;have O:=er Fm.afq l λt _=>t.da;obtain⟨_,y,z⟩:=Fm.kZ K;rw[Fm.dj,ew,gR,gR] at r;have P:=j_ k;rw[mI,Fm.dp];simp only[Fm.cX,Fm.c8,Fm.eF,cO];rw[cQ Zb,cM]
   have i:∀(us:List Tm) (j:Nat) (v:Int),(∀t∈us,t∈ts)->0<=v->v+cN Tm.afq us<=1000000000->eg (λ(Q:Int) (A:Tm)=>(λ(B:Int)=>
      cH (iI A b B a) λC=>
      some ((.next C):eK Int Int))) us j v=some (.inl (v+(cN (Tm.afw (a+b)) us:Int))):=by
    intro us
    induction us with
    |nil=>intro j v _ _ _;simp[cN]|cons t us e=>
     intro j v hm v0 v1;simp only[cN] at v1|-;have d:=hm t aae;have D:=cV Tm.afq d;have R:=t.e9 (a+b);rw[dq];unfold iI at e|-;rw[dk (a:=a) Zb Zb,tp (a+b) ⟨y t d,r.1 t d,Zb⟩];simp only[cG,dt];rw[dk Zb Zb];have:=e (j+1) (v+(t.afw (a+b):Int)) (λu hu=>hm u (by simp[hu])) Zb Zb;rw[dk (a:=a) Zb Zb] at this;rw[this]
     congr 2
     push_cast
     omega
   rw[i ts 0 c (λt h=>h) L Zb];have S:=gn (f:=Tm.afw (a+b)) (g:=Tm.afq) (l:=ts) λx _=>x.e9 _;simp only[cG,cR];rw[jv,cG]
   have m:∀(us:List Fm) (j:Nat) (v:Int),(∀t∈us,t∈l)->0<=v->v+cN Fm.afq us<=1000000000->eg (λ(T:Int) (E:Fm)=>(λ(v72:Int)=>
      cH (mI n E (b+qB k) (λ(s:Int) (p:Tm) (q:Int)=>iI p q s a) v72) λF=>
      some ((.next F):eK Int Int))) us j v=some (.inl (v+(cN (Fm.afw (a+b+qB k)) us:Int))):=by
    intro us
    induction us with
    |nil=>intro j v _ _ _;simp[cN]|cons t us e=>
     intro j v hm v0 v1;simp only[cN] at v1|-;have d:=hm t aae;have D:=cV Fm.afq d;have R:=t.e9 (a+b+qB k);rw[dq,I t (b+qB k) v Zb Zb (z t d) (r.2 t d) Zb Zb v0 Zb,show a+(b+qB k)=a+b+qB k by omega];simp only[cG,dt];rw[e (j+1) _ (λu hu=>hm u (by simp[hu])) Zb Zb]
     congr 2
     push_cast
     omega
   have fin:=m l 0 (c+(cN (Tm.afw (a+b)) ts:Int)) (λt h=>h) Zb Zb
   by_cases o:gv k=true
   ·rw[cL o]
    have G:qB k=1:=by unfold qB;rw[cL o]
    rw[G] at fin|-;rw[dk Zb Zb,cQ Zb,cM,fin];simp only[cG,cR]
    congr 1
    push_cast
    omega
   ·rw[cJ o]
    have G:qB k=0:=by unfold qB;rw[cJ o]
    rw[G] at fin|-;rw[ka b] at fin;rw[cQ Zb,cM,fin];simp only[cG,cR]
    congr 1
    push_cast
    omega
def kl{f:Fm}{a:Int}(c:f.ok=true)(hn:f.afq<=50000000)(d:f.afu 1000000000000=true)(e:0<=a)(b:a<=100000000):lJ f a=some (f.afw a:Int):=by
 unfold lJ;rw[sY e b FU f 0 0 (by have:=dn;omega) hn c d Zb Zb Zb Zb];simp only[cG];rw[show a+0=a by omega,NN]
noncomputable def gH (f:Fm) (t:Tm):Fm×Int:=if 4096<(Fm.ei 0 f t).afq then(.mk 0 (.mk 0 []) [] [],4)else(Fm.ei 0 f t,0)
noncomputable def yb (f:Fm) (g:List Ty):Int:=if pe g≠0 then pe g else if f.err≠0 then f.err else f.nI g
def fh.of{g:List Ty}(h:pe g=0):fh g/\g.length<=16:=by
 unfold pe at h
 split at h
 ·cases h
 ·rename_i d;refine⟨λs hs=>?_,Zb⟩
  have key:∀l:List Ty,dB (l.map Ty.err)=0->∀s∈l,s.err=0:=by
   intro l
   induction l with
   |nil=>intro _ s hs;cases hs
   |cons a l c=>
    intro h s hs;simp only[jc,dB] at h
    by_cases b:a.err=0
    ·rw[cL b] at h;rcases gT.1 hs with rfl|hs
     ·exact b
     ·exact c h s hs
    ·rw[cJ b] at h;exact absurd h b
  exact key g h s hs
def n5{g:List Ty}(hg:fh g)(c:g.length<=1000000):oO g=some (g.map mi):=by
 unfold oO;simp only[cO]
 rw[cQ Zb,cM,eW mi g 0 [] aaV (λj x v a b=>by
  rw[gK (hg x a),cG,di (by simpa using b),cM,ec])]
 simp
def m8{f:Fm}{g:List Ty}(hw:f.wt<=1000000000)(c:g.length<=1000000)(h:∀t∈g,t.afq<=1000000000):mE g f=some (yb f g):=by
 unfold mE yb;rw[p0 g c h,cG]
 by_cases a:pe g=0
 ·rw[cJ (by rw[cP];simpa using a),cJ (by simpa using a),gJ hw,cG]
  by_cases he:f.err=0
  ·obtain⟨hg,d⟩:=fh.of a;obtain⟨b,hn⟩:=Fm.ey he;rw[cJ (by rw[cP];simpa using he),cJ (by simpa using he),n5 hg c,cG,oT f b FU (by have:=dn;omega) g hg Zb hn];rfl
  ·rw[cL (by rw[cP];exact he),cL he]
 ·rw[cL (by rw[cP];exact a),cL a]
def oe{f:Fm}{g:List Ty}(hw:f.wt<=1000000000)(c:g.length<=1000000)(h:∀t∈g,t.afq<=1000000000):jg g f=some (yb f g):=by
 unfold jg jY yb;rw[mo g c h,cG]
 by_cases a:pe g=0
 ·rw[cJ (by rw[cP];simpa using a),cJ (by simpa using a),iv hw,cG]
  by_cases he:f.err=0
  ·obtain⟨hg,d⟩:=fh.of a;obtain⟨b,hn⟩:=Fm.ey he;rw[cJ (by rw[cP];simpa using he),cJ (by simpa using he),rD f b FU (by have:=dn;omega) g hg Zb hn];rfl
  ·rw[cL (by rw[cP];exact he),cL he];rfl
 ·rw[cL (by rw[cP];exact a),cL a]
def zA{f:Fm}{t:Tm}(he:f.err=0)(b:t.err=0)(g:f.afu 1000000000000=true)(d:t.afu 1000000000000=true):gP f t=some (gH f t):=by
 obtain⟨a,hn⟩:=Fm.ey he;obtain⟨c,e⟩:=Tm.ey b;have hw:=f.eY a;have j:=t.eY c;have n:=t.da;have k:=f.e9 0;have l:=Fm.ky t f 0 a;unfold gP gH;rw[kg Zb,cI,lQ Zb,cI,kl a Zb g Zb Zb,cG,cL he,cL b];rw[dF Zb Zb]
 have hmul:(f.afw 0:Int)*((t.afq:Int)-1)=((f.afw 0*t.afq:Nat):Int)-(f.afw 0:Int):=by rw[N_,N1];push_cast;rfl
 have m:f.afw 0*t.afq<=4096*4096:=BA Zb e;have h:f.afw 0<=f.afw 0*t.afq:=Ur _ Zb;rw[p_ (by rw[hmul];omega) (by rw[hmul];omega),hmul,dk Zb Zb]
 by_cases i:4096<(Fm.ei 0 f t).afq
 ·rw[cL (by rw[eb];omega),cL i]
 ·rw[cJ (by rw[eb];omega),cJ i,n7 a Zb g (Bd.lift ⟨c,d,Zb⟩) Zb Zb];rfl
def wm{f:Fm}{s:Tm}(he:f.err=0)(b:s.err=0)(h:f.afu 536870912=true)(c:s.afu 536870912=true)(d:(Fm.ei 0 f s).ok=true):qG f 0 s=some (gH f s):=by
 obtain⟨a,hn⟩:=Fm.ey he;obtain⟨e,g⟩:=Tm.ey b;have hw:=f.eY a;have k:=s.eY e;have l:=s.da;have m:=f.e9 0;have n:=Fm.ky s f 0 a;unfold qG gH;rw[iv Zb,he];simp only[cG,cP,ne_eq,NH,jm,cO,hW,eb,gY,mu];rw[cJ Zb,hY Zb,b,tF FU f _ (by rw[dn];omega) Zb,h,uI _ Zb,c];simp only[cG,NH,jm,if_true,MP,qa];rw[kN FU f (by rw[dn];omega) Zb,yB FU f 0 (by rw[dn];omega) Zb Zb Zb,iW FU s (by rw[dn];omega) Zb];simp only[cG];rw[dF Zb Zb]
 have hmul:(f.afw 0:Int)*((s.afq:Int)-1)=((f.afw 0*s.afq:Nat):Int)-(f.afw 0:Int):=by rw[N_,N1];push_cast;rfl
 have o:f.afw 0*s.afq<=4096*4096:=BA Zb g;have i:f.afw 0<=f.afw 0*s.afq:=Ur _ Zb;rw[p_ (by rw[hmul];omega) (by rw[hmul];omega),hmul,dk Zb Zb]
 by_cases j:4096<(Fm.ei 0 f s).afq
 ·rw[cL Zb,cL j]
 ·rw[cJ Zb,cJ j,yH FU f 0 0 s (by rw[dn];omega) Zb Zb Zb Zb (Fm.ir f Zb h) a Zb (Tm.ir s Zb c)];simp only[cG,ka];have p:=Fm.eY _ d;rw[gU Zb];rfl
def sK{α:Type}{E:α->α->Option Bool}{m l:List α}(hlen:l.length=m.length)(h:∀x∈l,∀y,∃r,E x y=some r/\(r=true↔x=y)):∃o:Unit⊕Bool,eg (λ(j:Int) (x:α) (_:Unit)=>cH (du m j) λy=>cH (E x y) λz=>if z then(some (eK.next ()):Option (eK Unit Bool))else some (eK.ret false)) l 0 ()=some o/\(o=.inl ()/\l=m\/o=.inr false/\l≠m):=by
 let p:α->α->Bool:=λx y=>(E x y).getD false
 have c:∀x∈l,∀y,E x y=some (p x y)/\(p x y=true↔x=y):=by
  intro x a y;obtain⟨r,d,b⟩:=h x a y
  have e:p x y=r:=by show(E x y).getD false=r;rw[d];rfl
  rw[e];exact⟨d,b⟩
 have key:=pW (F:=λ(j:Int) (x:α) (_:Unit)=>cH (du m j) λy=>cH (E x y) λz=>if z then some (eK.next ())else some (eK.ret false)) p m l 0 m rfl hlen (by
  intro k x y a hy;rw[fw,hy];simp only[cG];rw[(c x a y).1]
  rfl)
 have he:=p7 p l m λx a y=>(c x a y).2;rw[key];cases b:om p l m with
 |false=>rw[b] at he;exact⟨_,rfl,.inr ⟨rfl,λe=>absurd (he.2 e) aae⟩⟩
 |true=>rw[b] at he;exact⟨_,rfl,.inl ⟨rfl,he.1 rfl⟩⟩
def sX:∀(n:Nat) (a b:Fm),a.wt<=n->a.wt<=1000000000->∃r,k4 n a b=some r/\(r=true↔a=b):=by
 intro n
 induction n with
 |zero=>intro t b h;have:=t.eL;omega
 |succ n q=>
  intro a b h u;cases a with
  |mk k s ts l=>
  cases b with
  |mk k' f us m=>
   rw[Fm.dD] at h u;have B:=Fm.jh l;have v:=Tm.jh ts;rw[k4];simp only[Fm.cX,Fm.c8,Fm.eF,Fm.ds,cO,cQ (l:=l) Zb,cQ (l:=ts) Zb,cM,cP,dK]
   have no:¬(k=k'/\s=f/\ts=us/\l=m)->∃r,some false=some r/\(r=true↔Fm.mk k s ts l=Fm.mk k' f us m):=by
    intro hn;refine⟨false,rfl,?_⟩;simp only[qa,B6,Fm.mk.injEq];exact hn
   by_cases d:k≠k'
   ·rw[cL d,cL trivial];exact no λh=>d h.1
   ·rw[cJ d];obtain⟨r,w,p⟩:=pL FU s f (by rw[dn];omega) Zb;rw[w];simp only[cG]
    by_cases e:r=true
    ·have hs:=p.1 e;rw[cL e]
     by_cases g:(ts.length:Int)≠us.length
     ·rw[cL g,cL trivial];exact no λh=>g (by rw[h.2.2.1])
     ·rw[cJ g]
      by_cases hm:(l.length:Int)≠m.length
      ·rw[cL hm];exact no λh=>hm (by rw[h.2.2.2])
      ·rw[cJ hm];obtain⟨o,z,k2⟩:=sK (E:=λx y=>ia FU x y) (l:=ts) (m:=us) Zb (λx c y=>pX FU x y (by have:=cV Tm.wt c;rw[dn];omega) (by have:=cV Tm.wt c;omega));rw[z];rcases k2 with⟨rfl,i⟩|⟨rfl,i⟩
       ·simp only[cG,cR];obtain⟨o,q1,A⟩:=sK (E:=λx y=>k4 n x y) (l:=l) (m:=m) Zb (λx c y=>q x y (by have:=cV Fm.wt c;omega) (by have:=cV Fm.wt c;omega));rw[q1];rcases A with⟨rfl,j⟩|⟨rfl,j⟩
        ·exact⟨true,rfl,by simp only[N4,Fm.mk.injEq];exact⟨nN.1 d,hs,i,j⟩⟩
        ·exact no λh=>j h.2.2.2
       ·exact no λh=>i h.2.2.1
    ·rw[cJ e,cL trivial];exact no λh=>e (p.2 h.2.1)
def zv:∀(n:Nat) (a b:Fm),a.wt<=n->a.wt<=1000000000->∃r,qT n a b=some r/\(r=true↔a=b):=by
 intro n
 induction n with
 |zero=>intro t b h;have:=t.eL;omega
 |succ n u=>
  intro a b h v;cases a with
  |mk k s ts l=>
  cases b with
  |mk k' i us m=>
   rw[Fm.dD] at h v;have C:=Fm.jh l;have w:=Tm.jh ts;rw[qT];simp only[Fm.cX,Fm.c8,Fm.eF,Fm.ds,cO,cQ (l:=l) Zb,cM,cP,dK]
   have no:¬(k=k'/\s=i/\ts=us/\l=m)->∃r,some false=some r/\(r=true↔Fm.mk k s ts l=Fm.mk k' i us m):=by
    intro hn;refine⟨false,rfl,?_⟩;simp only[qa,B6,Fm.mk.injEq];exact hn
   have c:∃r,rp ts us=some r/\(r=true↔ts=us):=by
    unfold rp;simp only[cP,dK,cO,cQ (l:=ts) Zb,cM]
    by_cases d:(ts.length:Int)≠us.length
    ·rw[cL d];exact⟨false,rfl,by simp only[qa,B6];rintro rfl;exact d rfl⟩
    ·rw[cJ d];obtain⟨o,z,k2⟩:=sK (E:=λx y=>jk FU x y) (l:=ts) (m:=us) Zb (λx e y=>tu FU x y (by have:=cV Tm.wt e;rw[dn];omega) (by have:=cV Tm.wt e;omega));rw[z];rcases k2 with⟨rfl,j⟩|⟨rfl,j⟩
     ·exact⟨true,rfl,by simpa using j⟩
     ·exact⟨false,rfl,by simpa using j⟩
   by_cases f:k≠k'
   ·rw[cL f,cL trivial];exact no λh=>f h.1
   ·rw[cJ f,fm Zb];simp only[cG]
    by_cases g:s.fX i=true
    ·have hs:=(Ty.gi _ _).1 g;obtain⟨r,A,q⟩:=c;rw[cL g,A];simp only[cG]
     by_cases d:r=true
     ·rw[cL d]
      by_cases hm:(l.length:Int)≠m.length
      ·rw[cL hm];exact no λh=>hm (by rw[h.2.2.2])
      ·rw[cJ hm];obtain⟨o,q1,B⟩:=sK (E:=λx y=>qT n x y) (l:=l) (m:=m) Zb (λx e y=>u x y (by have:=cV Fm.wt e;omega) (by have:=cV Fm.wt e;omega));rw[q1];rcases B with⟨rfl,p⟩|⟨rfl,p⟩
       ·exact⟨true,rfl,by simp only[N4,Fm.mk.injEq];exact⟨nN.1 f,hs,q.1 d,p⟩⟩
       ·exact no λh=>p h.2.2.2
     ·rw[cJ d,cL trivial];exact no λh=>d (q.2 h.2.2.1)
    ·rw[cJ g,cL trivial];exact no λh=>g ((Ty.gi _ _).2 h.2.1)
def xm(l:List Ty)(t:Tm):Tm:=l.foldr (λs b=>.mk 2 0 s [b]) t
def Ji{l:List Ty}(n:l.length<=1000):∀(i m:Nat) (t:Tm),i<=l.length->i<m->ow ((Qd λ(b:Int) (c:Int) (v59:Int) (d:Int) (e:List Ty) (f:List Tm)=>
   if(sS b 0) then(
   cH (du l b) λg=>
   some (.next ((eH .i64 b 1),2,0,g.afo,g.afp,[(Tm.mk c v59 (Ty.mk d e) f)])))
   else(some (.DN (b,c,v59,d,e,f)))):(Int×Int×Int×Int×(List Ty)×(List Tm))->(Option (eK (Int×Int×Int×Int×(List Ty)×(List Tm)) (Tm)))) m ((i:Int)-1,t.afo,t.afr,t.cW.afo,t.cW.afp,t.afp)=some (.inl (-1,(xm (l.take i) t).afo,(xm (l.take i) t).afr,(xm (l.take i) t).cW.afo,(xm (l.take i) t).cW.afp,(xm (l.take i) t).afp))
 |0,m+1,t,_,_=>by
  rw[jL];simp only[Qd];rw[cJ (by rw[fB];omega)];rfl
 |i+1,m+1,t,hi,hm=>by
  rw[jL];simp only[Qd];rw[cL (by rw[fB];omega),show((i+1:Nat):Int)-1=(i:Int) by omega,fw,mr Zb];simp only[cG,dt];rw[dF Zb Zb]
  have p:Ty.mk (l[i]).afo (l[i]).afp=l[i]:=by cases l[i];rfl
  have o:Tm.mk t.afo t.afr (Ty.mk t.cW.afo t.cW.afp) t.afp=t:=by cases t with|mk k j s a=>cases s;rfl
  have h:=Ji n i m (.mk 2 0 l[i] [t]) Zb Zb;rw[o];refine h.trans ?_;rw[UE,mr Zb];simp only[xm,Vm,VT,Vv,VS]
def r'(t:Tm)(l:List Ty)(b:l.length<=1000):yZ t l=some (xm l t):=by
 unfold yZ;simp only[cO];rw[dK,dF Zb Zb];have h:=Ji b l.length FU t (jM _) (NA Zb);rw[h,cG,Vn];generalize xm l t=r;cases r with|mk k j s a=>cases s;rfl
def uK(t a:Tm):rB t [a]=some (.mk 3 0 (.mk 0 []) [t,a]):=by cases t with|mk k j s l=>cases s;rfl
def A'(t a b:Tm):rB t [a,b]=some (.mk 3 0 (.mk 0 []) [.mk 3 0 (.mk 0 []) [t,a],b]):=by cases t with|mk k j s l=>cases s;rfl
def Nj:Tm:=xm [.nat] (.mk 6 0 .nat [.mk 4 0 (.mk 0 []) [],xm [.nat,.nat] (.mk 1 1 (.mk 0 []) []),.mk 1 0 (.mk 0 []) []])
def Aa:w7=some Nj:=by
 unfold w7 ov vA hX BH;simp only[oU,cG,r' _ _ (show[Ty.nat,Ty.nat].length<=1000 by decide),r' _ _ (show[Ty.nat].length<=1000 by decide)];rfl
def SY:Tm:=xm [.nat,.nat] (.mk 6 0 .nat [.mk 1 1 (.mk 0 []) [],xm [.nat,.nat] (.mk 3 0 (.mk 0 []) [Nj,.mk 1 0 (.mk 0 []) []]),.mk 1 0 (.mk 0 []) []])
def A1:y0=some SY:=by
 unfold y0 ov DQ hX BH;simp only[Aa,oU,cG,uK,r' _ _ (show[Ty.nat,Ty.nat].length<=1000 by decide)];rfl
def Np(a b:Tm):Fm:=.mk 1 (.mk 0 []) [.mk 3 0 (.mk 0 []) [.mk 3 0 (.mk 0 []) [SY,.mk 5 0 (.mk 0 []) [a]],b],.mk 4 0 (.mk 0 []) []] []
def zC(a b:Tm):w6 a b=some (Np a b):=by
 unfold w6 vA vk;simp only[A1,cG,A'];rfl
def Jr:∀x y:Fin 8,∃z:Fin 8,pz .u8 (x:Nat) (y:Nat)=(z:Nat)/\((z:Nat)%2=1↔(x:Nat)%2=1/\(y:Nat)%2=1):=Zk
def Li:∀x y:Fin 8,∃z:Fin 8,vw .u8 (x:Nat) (y:Nat)=(z:Nat)/\((z:Nat)%2=1↔(x:Nat)%2=1\/(y:Nat)%2=1):=Zk
def Mk(b:Bool)(m:Int):Prop:=∃x:Fin 8,m=((x:Nat):Int)/\((x:Nat)%2=1↔b=true)
def Mk.and{a b:Bool}{x y:Int}(c:Mk a x)(hy:Mk b y):Mk (a&&b) (pz .u8 x y):=by
 obtain⟨x,rfl,d⟩:=c;obtain⟨y,rfl,e⟩:=hy;obtain⟨z,f,g⟩:=Jr x y;exact⟨z,f,by rw[g,d,e,ew]⟩
def Mk.or{a b:Bool}{x y:Int}(c:Mk a x)(hy:Mk b y):Mk (a||b) (vw .u8 x y):=by
 obtain⟨x,rfl,d⟩:=c;obtain⟨y,rfl,e⟩:=hy;obtain⟨z,f,g⟩:=Li x y;exact⟨z,f,by rw[g,d,e,mu]⟩
def Mk.one:Mk true 1:=⟨1,rfl,Zk⟩
def Mk.Y1:Mk false 6:=⟨6,rfl,Zk⟩
def Mk.four:Mk false 4:=⟨4,rfl,Zk⟩
def Mk.bit{b:Bool}{m:Int}(h:Mk b m):dI (pz .u8 m 1) 0=b:=by
 obtain⟨x,rfl,a⟩:=h
 have key:∀x:Fin 8,dI (pz .u8 ((x:Nat):Int) 1) 0=decide ((x:Nat)%2=1):=Zk
 rw[key x];cases b with
 |false=>exact xY (λh=>by have:=a.1 h;cases this)
 |true=>exact qb (a.2 rfl)
def Fm.Om{a:Fm}(d:a.ok=true)(c:a.afo=2\/a.afo=3):∃p q,a=.mk a.afo (.mk 0 []) [] [p,q]/\p.ok=true/\q.ok=true:=by
 refine Fm.jJ (p:=λa=>a.afo=2\/a.afo=3->∃p q,a=.mk a.afo (.mk 0 []) [] [p,q]/\p.ok=true/\q.ok=true) ?_ ?_ ?_ a d c
 ·intro a b _ _ h;rcases h with h|h<;>cases h
 ·intro k a b _ e f _ _ _;exact⟨a,b,rfl,e,f⟩
 ·intro k s a c _ _ _ h;have h:k=2\/k=3:=h;omega
def Fm.T3{a:Fm}(d:a.ok=true)(e:a.afo=1):∃u v,a=.mk 1 (.mk 0 []) [u,v] []/\u.ok=true/\v.ok=true:=by
 refine Fm.jJ (p:=λa=>a.afo=1->∃u v,a=.mk 1 (.mk 0 []) [u,v] []/\u.ok=true/\v.ok=true) ?_ ?_ ?_ a d e
 ·intro a b f g _;exact⟨a,b,rfl,f,g⟩
 ·intro k a b c _ _ _ _ h;have h:k=1:=h;omega
 ·intro k s a c _ _ _ h;have h:k=1:=h;omega
def Tm.OM{a:Tm}(e:a.ok=true)(f:a.afo=3):∃c d,a=.mk 3 0 .z [c,d]/\c.ok=true/\d.ok=true:=by
 refine Tm.jJ (p:=λa=>a.afo=3->∃c d,a=.mk 3 0 .z [c,d]/\c.ok=true/\d.ok=true) ?_ ?_ ?_ ?_ ?_ ?_ ?_ ?_ ?_ ?_ ?_ ?_ ?_ a e f
 case refine_3=>intro a b g i _;exact⟨a,b,rfl,g,i⟩
 all_goals(intros;rename_i h;cases h)
def yW{k:Int}{s:Ty}{a:Fm}(R:(Fm.mk k s [] [a]).ok=true)(hn:(Fm.mk k s [] [a]).afq<=1000000)(I:a.afu 1000000000000=true)(n:a.ok=true):∃b t q ok,uO (.mk k s [] [a])=some (b,t,q,ok)/\(ok=true->q.ok=true/\q.afq<a.afq/\q.afu 1000000000000=true):=by
 rw[Fm.cK] at hn;simp only[cN] at hn;have no:∃b t q ok,(some (false,(Tm.mk 0 0 (Ty.mk 0 []) []),(Fm.mk 0 (Ty.mk 0 []) [] []),false):Option (Bool×Tm×Fm×Bool))=some (b,t,q,ok)/\(ok=true->q.ok=true/\q.afq<a.afq/\q.afu 1000000000000=true):=⟨_,_,_,_,rfl,aae⟩;unfold uO
 obtain⟨o,j,J,S⟩:∃o j,va (dC (Fm.mk k s [] [a]).afo 4)=some (o,j)/\(j=2\/j=3):=by
  unfold va
  split
  ·exact⟨_,_,rfl,.inr rfl⟩
  ·exact⟨_,_,rfl,.inl rfl⟩
 rw[J,cI];simp only[cO]
 by_cases E:dI (Fm.mk k s [] [a]).afo o=true
 ·rw[cL E,cL trivial];exact no
 rw[cJ E]
 by_cases F:dI (Fm.mk k s [] [a]).cW.afo 1=true
 ·rw[cL F,cL trivial];exact no
 rw[cJ F];simp only[Fm.cX,dc,fL,cG]
 by_cases c3:dI a.afo j=true
 ·rw[cL c3,cL trivial];exact no
 rw[cJ c3]
 have w:a.afo=2\/a.afo=3:=by
  have:a.afo=j:=by simpa[dI] using c3
  omega
 obtain⟨p,q,e,G,K⟩:=Fm.Om n w;have x:a.afp=[p,q]:=(congrArg Fm.afp e).trans rfl
 have L:a.afq=1+p.afq+q.afq:=by rw[e,Fm.cK];simp[cN];omega
 have l:p.afu 1000000000000=true/\q.afu 1000000000000=true:=by
  have f:=I;rw[e,Fm.dj] at f;simp only[H_,sb,BT,tx,ew] at f;exact f
 have M:=p.da;rw[x];simp only[dc,ef,fL,iU,cG]
 by_cases y:dI p.afo 1=true
 ·rw[cL y];exact no
 rw[cJ y]
 have z:p.afo=1:=by simpa[dI] using y
 obtain⟨u,v,g,hu,T⟩:=Fm.T3 G z;have A:p.dy=[u,v]:=(congrArg Fm.dy g).trans rfl
 have h:u.afu 1000000000000=true:=by
  have:=l.1;rw[g,Fm.dj] at this;simp only[sb,ew] at this;exact this.1.1
 have N:p.afq=1+u.afq+v.afq:=by rw[g,Fm.cK];simp[cN];omega
 rw[A];simp only[dc,fL,cG]
 by_cases c5:dI u.afo 3=true
 ·rw[cL c5,cL trivial];exact no
 rw[cJ c5]
 have B:u.afo=3:=by simpa[dI] using c5
 obtain⟨c,d,i,U,O⟩:=Tm.OM hu B;have C:u.afp=[c,d]:=(congrArg Tm.afp i).trans rfl
 have P:u.afq=1+c.afq+d.afq:=by rw[i,Tm.cK];simp[cN];omega
 have D:d.afu 1000000000000=true:=by
  rw[i,Tm.dj] at h;simp only[sb,ew] at h;exact h.2.2.1
 rw[C];simp only[ef,iU,fL,cG];rw[tp 0 ⟨O,D,Zb⟩,cG];have yes:∃b t m ok,(some (dC (Fm.mk k s [] [a]).afo 4,d,q,true):Option (Bool×Tm×Fm×Bool))=some (b,t,m,ok)/\(ok=true->m.ok=true/\m.afq<a.afq/\m.afu 1000000000000=true):=⟨_,_,_,_,rfl,λ_=>⟨K,Zb,l.2⟩⟩
 by_cases H:pc (d.afw 0:Int) 0=true
 ·rw[cL H,cL trivial];exact no
 rw[cJ H];have hw:=p.eY G;obtain⟨r,Q,_⟩:=sX FU p (Np (.mk 1 0 (.mk 0 []) []) d) (by rw[dn];omega) Zb;rw[show hX 0=some (Tm.mk 1 0 (.mk 0 []) [])from rfl,cG,zC,cG,Q,cG];cases r with
 |true=>rw[show s_ true=false from rfl,cJ Zk];exact yes|false=>rw[show s_ false=true from rfl,cL rfl];exact no
def C_:∀(n:Nat) (f:Fm),f.afq<=n->f.afq<=1000000->f.ok=true->f.afu 1000000000000=true->∃m,l_ n f=some m/\Mk f.has m:=by
 intro n
 induction n with
 |zero=>intro f h;have:=f.da;omega
 |succ n w=>
  intro f hn e x c;refine Fm.jJ (p:=λf=>f.afq<=n+1->f.afq<=1000000->f.ok=true->f.afu 1000000000000=true->∃m,l_ (n+1) f=some m/\Mk f.has m) ?_ ?_ ?_ f x hn e x c
  ·intro a b _ _ _ _ _ _;rw[l_,cL abG];exact⟨6,rfl,by rw[Fm.has_eq];exact Mk.Y1⟩
  ·intro k a b y z B _ _ hn e _ c;rw[Fm.cK] at hn e;simp only[cN] at hn e;rw[Fm.dj] at c;simp only[H_,sb,BT,tx,ew] at c;obtain⟨A,C,r⟩:=w a Zb Zb z c.1;obtain⟨j,D,u⟩:=w b Zb Zb B c.2
   have d:k≠1:=Zb
   have E:fp (dC k 2) true (dC k 3)=true:=by rcases y with rfl|rfl<;>rfl
   rw[l_,cJ (show¬dC (Fm.mk k (.mk 0 []) [] [a,b]).afo 1=true by simpa[dC] using d)]
   have F:du [a,b] (eH .i64 (dT [a,b]) 1)=some b:=by rw[dF aae aae];rfl
   simp only[Fm.cX,F,cG,D,cO];rw[cL (show fp (dC (Fm.mk k (.mk 0 []) [] [a,b]).afo 2) true (dC (Fm.mk k (.mk 0 []) [] [a,b]).afo 3)=true from E)];simp only[dc,fL,cG,C,Fm.c8];refine⟨_,rfl,?_⟩;rw[Fm.sn,cJ d];have l:=(r.and u).and Mk.Y1;rw[Wa] at l;rcases y with rfl|rfl
   ·rw[show fp (dC 2 2) (vw .u8 j A) j=vw .u8 j A from rfl];have g:=(u.or r).and Mk.one;rw[BT] at g;have:=l.or g;rw[QL,abg] at this;simpa using this
   ·rw[show fp (dC 3 2) (vw .u8 j A) j=j from rfl];have g:=u.and Mk.one;rw[BT] at g;have:=l.or g;rw[QL] at this;simpa using this
  ·intro k s a y hs z _ hn e x c;have G:=e;rw[Fm.cK] at hn e;simp only[cN] at hn e;rw[Fm.dj] at c;simp only[H_,sb,BT,tx] at c;obtain⟨A,C,r⟩:=w a Zb Zb z c
   have d:k≠1:=Zb
   have E:fp (dC k 2) true (dC k 3)=false:=by rcases y with rfl|rfl|rfl|rfl<;>rfl
   rw[l_,cJ (show¬dC (Fm.mk k s [] [a]).afo 1=true by simpa[dC] using d)]
   have F:du [a] (eH .i64 (dT [a]) 1)=some a:=by rw[dF aae aae];rfl
   simp only[Fm.cX,F,cG,C,cO];rw[cJ (show¬fp (dC (Fm.mk k s [] [a]).afo 2) true (dC (Fm.mk k s [] [a]).afo 3)=true by rw[show fp (dC (Fm.mk k s [] [a]).afo 2) true (dC (Fm.mk k s [] [a]).afo 3)=false from E];decide)];obtain⟨b,t,q,ok,L,M⟩:=yW x G c z;rw[L]
   have fin:∀(v:Int) (K:Mk (Fm.mk k s [] [a]).has v),∃m,(Ro (some (b,t,q,ok)) λN O H I=>if I then(cH (l_ n H) λo=>some (vw .u8 (pz .u8 v 1) (pz .u8 o 4)))else(some (pz .u8 v 1)))=some m/\Mk (Fm.mk k s [] [a]).has m:=by
    intro v K;show∃m,(if ok then(cH (l_ n q) λo=>some (vw .u8 (pz .u8 v 1) (pz .u8 o 4)))else(some (pz .u8 v 1)))=some m/\Mk (Fm.mk k s [] [a]).has m;have l:=K.and Mk.one;rw[BT] at l;cases ok with
    |false=>exact⟨_,rfl,l⟩|true=>
     obtain⟨d1,d2,d3⟩:=M rfl;obtain⟨j,D,u⟩:=w q Zb Zb d1 d3;rw[cL rfl,D];refine⟨_,rfl,?_⟩;have g:=u.and Mk.four;rw[Wa] at g;have:=l.or g
     rwa [V5] at this
   have i:(Fm.mk k s [] [a]).has=if k=5 then true else a.has:=by
    rw[Fm.sx,cJ d]
   by_cases J:k=5
   ·subst J;rw[cL abG];refine fin _ ?_;rw[i,cL rfl];have:=r.or Mk.one
    rwa [Z5] at this
   ·rw[cJ (show¬dC (Fm.mk k s [] [a]).afo 5=true by simpa[dC] using J)];refine fin _ ?_;rw[i,cJ J];exact r
def vN{f:Fm}(hw:f.wt<=1000000000)(b:f.afu 1000000000000=true):ot f=some (if f.err≠0 then(false,f.err)else(f.has,0)):=by
 unfold ot DP;rw[gJ hw,cG]
 by_cases he:f.err=0
 ·obtain⟨a,hn⟩:=Fm.ey he;obtain⟨m,c,d⟩:=C_ FU f (by have:=dn;omega) Zb a b;rw[cJ (by rw[cP];simpa using he),c,cG,d.bit,cI,cJ (by simpa using he)]
 ·rw[cL (by rw[cP];exact he),cI,cL he]
def iD{α:Type}(m:List (Int×α)):List Int:=m.map (·.1)
def uE{α:Type}(k:Int)(v:α):∀(m:List (Int×α)) (x:Int),x∈iD (qS m k v)↔x=k\/x∈iD m
 |[],x=>by simp[qS,iD]|p::m,x=>by
  unfold qS
  by_cases h:p.1=k
  ·rw[cL h];subst h;simp[iD]
  ·rw[cJ h];have a:=uE k v m x;simp only[iD,jc,gT] at a|-;rw[a];constructor
   ·rintro(h|h|h)
    ·exact .inr (.inl h)
    ·exact .inl h
    ·exact .inr (.inr h)
   ·rintro(h|h|h)
    ·exact .inr (.inl h)
    ·exact .inl h
    ·exact .inr (.inr h)
def tW{α:Type}(k:Int)(v:α):∀(m:List (Int×α)),(iD m).Nodup->(iD (qS m k v)).Nodup
 |[],_=>by simp[qS,iD]|p::m,h=>by
  have b:p.1∉iD m/\(iD m).Nodup:=Sr.1 h;unfold qS
  by_cases a:p.1=k
  ·rw[cL a];subst a;exact h
  ·rw[cJ a];refine Sr.2 ⟨λhm=>?_,tW k v m b.2⟩;rcases(uE k v m p.1).1 hm with e|e
   ·exact a e
   ·exact b.1 e
def yC{α:Type}(k:Int)(v:α):∀(m:List (Int×α)),(qS m k v).length<=m.length+1
 |[]=>by simp[qS]|p::m=>by
  unfold qS
  split
  ·simp
  ·have:=yC k v m;simp only[hQ];omega
def Ce(n:Int):∀l:List Int,(HE n l).length=l.length+1
 |[]=>rfl|a::l=>by
  unfold HE
  split
  ·rfl
  ·simp[Ce n l]
def Ay:∀(l acc:List Int),(zk acc l).length=acc.length+l.length
 |[],acc=>by simp[zk]|a::l,acc=>by rw[zk,Ay l,Ce];simp only[hQ];omega
def zQ:∀(n:Nat) (t:Tm) (d:Int) (m:List (Int×Bool)),t.afq<=n->t.afq<=100000000->0<=d->d+t.afq<=1000000000->t.afu 4611686018427387904=true->(iD m).Nodup->∃q,qt n t d m=some q/\(iD q).Nodup/\q.length<=m.length+t.afq/\∀x,x∈iD q↔x∈iD m\/(0<=x/\0<t.afw (x+d)):=by
 intro n
 induction n with
 |zero=>intro t d m h;have:=t.da;omega
 |succ n J=>
  intro t d m hn w K L C hm;cases t with
  |mk k i s l=>
   have D:=eN k;rw[Tm.cK] at hn w L;have hlen:=er Tm.afq l λt _=>t.da;rw[Tm.dj,ew,j8,gR] at C
   have afp:∀(F:Int->Tm->List (Int×Bool)->Option (eK (List (Int×Bool)) (List (Int×Bool)))),(∀j x v,F j x v=cH (lW (Tm.mk k i s l)) λb=>cH (qt n x (ep .i64 d b) v) λr=>some (.next r))->∀(as:List Tm) (j:Nat) (v:List (Int×Bool)),(∀a∈as,a∈l)->(iD v).Nodup->∃e,eg F as j v=some (.inl e)/\(iD e).Nodup/\e.length<=v.length+cN Tm.afq as/\∀x,x∈iD e↔x∈iD v\/(0<=x/\0<cN (Tm.afw (x+d+dr k)) as):=by
    intro F hF as
    induction as with
    |nil=>intro j v _ y;exact⟨v,rfl,y,by simp[cN],λx=>by simp[cN]⟩|cons a as z=>
     intro j v has y;have E:=has a aae;have M:=cV Tm.afq E;have A:=C.2 a E;obtain⟨v1,f,g,G,o⟩:=J a (d+dr k) v Zb Zb Zb Zb A y;obtain⟨v2,g1,g2,g3,g4⟩:=z (j+1) v1 (λb w=>has b (by simp[w])) g;refine⟨v2,?_,g2,by simp only[cN];omega,λx=>?_⟩
     ·rw[dq,hF,ji];simp only[cG,Tm.c8];rw[dk Zb Zb,f];simp only[cG,dt];exact g1
     ·rw[g4,o];simp only[cN];rw[<-aas];constructor
      ·rintro((h|h)|h)
       ·exact .inl h
       ·exact .inr ⟨h.1,Zb⟩
       ·exact .inr ⟨h.1,Zb⟩
      ·rintro(h|⟨h,u⟩)
       ·exact .inl (.inl h)
       ·by_cases N:0<a.afw (x+d+dr k)
        ·exact .inl (.inr ⟨h,N⟩)
        ·exact .inr ⟨h,Zb⟩
   unfold qt;simp only[cO,Tm.cX,cQ (l:=l) Zb,cM,Tm.c8,Tm.dX];rw[Tm.cK]
   by_cases p:k=1/\d<=i
   ·have c:fp (dC k 1) (sS i d) false=true:=by simp[fp,p.1,p.2]
    simp only[c,if_true];rw[dF Zb Zb];obtain⟨e,f,g,G,o⟩:=afp _ (λ_ _ _=>rfl) l 0 (qS m (i-d) true) (λa h=>h) (tW _ _ _ hm);refine⟨e,by rw[f];rfl,g,by have:=yC (i-d) true m;omega,λx=>?_⟩;rw[o,uE,Tm.dp];constructor
    ·rintro((h|h)|h)
     ·exact .inr ⟨Zb,by rw[cL ⟨p.1,Zb⟩];omega⟩
     ·exact .inl h
     ·exact .inr ⟨h.1,Zb⟩
    ·rintro(h|⟨h,u⟩)
     ·exact .inl (.inr h)
     ·by_cases H:x=i-d
      ·exact .inl (.inl H)
      ·rw[cJ (λI=>H Zb)] at u;exact .inr ⟨h,Zb⟩
   ·have c:fp (dC k 1) (sS i d) false=false:=by
     unfold fp
     split
     ·rename_i O
      have B:k=1:=by simpa using O
      simp only[sS,RQ]
      exactλh=>p ⟨B,h⟩
     ·rfl
    simp only[c,qa,jm];obtain⟨e,f,g,G,o⟩:=afp _ (λ_ _ _=>rfl) l 0 m (λa h=>h) hm;refine⟨e,by rw[f];rfl,g,Zb,λx=>?_⟩;rw[o,Tm.dp];constructor
    ·rintro(h|h)
     ·exact .inl h
     ·exact .inr ⟨h.1,Zb⟩
    ·rintro(h|⟨h,u⟩)
     ·exact .inl h
     ·rw[cJ (λI=>p ⟨I.1,Zb⟩)] at u;exact .inr ⟨h,Zb⟩
def zZ{t:Tm}(hw:t.wt<=1000000000)(d:t.afu 4611686018427387904=true)(he:t.err=0):∃l,wV t=some (l,0)/\Dk l/\l.length<=4096/\∀x,x∈l↔0<=x/\0<t.afw x:=by
 have hn:t.afq<=4096:=by
  unfold Tm.err at he
  split at he
  ·split at he
   ·cases he
   ·omega
  ·cases he
 obtain⟨m,e,c,f,g⟩:=zQ FU t 0 [] (by rw[dn];omega) Zb Zb Zb d (by simp[iD])
 have a:(m.map (·.1)).Nodup:=c
 have b:m.length<=4096:=by simpa using DJ f (by simpa using hn)
 refine⟨zk [] (iD m),?_,AM _ [] .nil c aae,?_,λx=>?_⟩
 ·unfold wV;rw[hY hw,he];simp only[cG];rw[cJ Zk,e];simp only[cG];unfold ru
  rw[cQ Zb,cM,show vW (m.map (·.1))=true from by simp[vW,a],cM]
  rfl
 ·rw[Ay];simp[iD,b]
 ·rw[AN,g];simp[iD]
def xQ{n:Int}(a:0<=n)(b:n<4294967296):IntKind.u32.wrap n=n:=by
 unfold IntKind.wrap;simp only[show IntKind.u32.bits=32 from rfl,show IntKind.u32.signed=false from rfl,Sp,qa,jm,show((2:Int)^32)=4294967296 from rfl];omega
def BI(a:Nat):BitVec.ofInt 32 (a:Int)=BitVec.ofNat 32 a:=aae
def Bc{a b:Nat}(d:a<4294967296)(e:b<4294967296):vw .u32 (a:Int) (b:Int)=((a|||b:Nat):Int):=by
 unfold vw;have c:a|||b<2^32:=RS Zb Zb;rw[show IntKind.u32.bits=32 from rfl,BI,BI,aaX,NQ,NQ,ML Zb,ML Zb];exact xQ Zb Zb
def CN{a b:Nat}(d:a<4294967296)(e:b<4294967296):pz .u32 (a:Int) (b:Int)=((a&&&b:Nat):Int):=by
 unfold pz;have c:a&&&b<2^32:=Yu _ Zb;rw[show IntKind.u32.bits=32 from rfl,BI,BI,Ya,NQ,NQ,ML Zb,ML Zb];exact xQ Zb Zb
def JH{k:Nat}(b:k<32):RC .u32 1 (k:Int)=((2^k:Nat):Int):=by
 unfold RC;rw[show IntKind.u32.bits=32 from rfl,AZ,R7 Zb,aaN];have a:2^k<2^32:=NO Zk b;rw[show((2:Int)^k)=((2^k:Nat):Int) by push_cast;rfl];exact xQ (VX _) (aaU.2 (Vz a rfl))
def IL{a k:Nat}(b:k<=32):Ss .u32 (a:Int) (k:Int)=((a/2^k:Nat):Int):=by
 unfold Ss;rw[show IntKind.u32.bits=32 from rfl,AZ,R7 b];rw[show((2:Int)^k)=((2^k:Nat):Int) by push_cast;rfl];rw[ZY _ (VX _)];rfl
structure Us (l:List Int) (m:Nat):Prop where
 lt:m<4294967296
 pos:∀x∈l,0<=x
 Qc:Dk l
 mem:∀i:Nat,(i:Int)∈l↔m.testBit i=true
def Us.nil:Us [] 0:=⟨Zk,aae,by first|exact .nil|trivial|simp[Dk],aae⟩
def vL{i b:Int}{m:Nat}(hm:m<4294967296)(g:0<=i)(l:i<=1000000000000)(o:0<=b)(p:b<=1000000000)(q:i-b<32):∃c:Nat,l5 i b (m:Int)=some (c:Int)/\c<4294967296/\∀j:Nat,c.testBit j=true↔m.testBit j=true\/i=j+b:=by
 unfold l5
 by_cases h:b<=i
 ·rw[cL (by rw[fB];exact h),dF Zb Zb,show H8 (i-b)=true by simp[H8];omega,cM];obtain⟨k,f⟩:∃k:Nat,i-b=(k:Int):=⟨(i-b).toNat,Zb⟩
  have a:k<32:=Zb
  have d:2^k<4294967296:=Vz (NO Zk a) rfl;rw[f,JH a,Bc hm d];refine⟨m|||2^k,rfl,RS (n:=32) Zb Zb,λj=>?_⟩;rw[IW,mu,N6,FX];constructor
  ·rintro(h|h)
   ·exact .inl h
   ·exact .inr Zb
  ·rintro(h|h)
   ·exact .inl h
   ·exact .inr Zb
 ·rw[cJ (by rw[fB];exact h)];exact⟨m,rfl,hm,λj=>⟨.inl,λe=>e.elim id λe=>absurd e Zb⟩⟩
def yN:∀(n:Nat) (t:Tm) (b:Int) (m:Nat),t.afq<=n->t.afq<=1000000->t.ok=true->t.afu 1000000000000=true->0<=b->b+t.afq<=1000000000->m<4294967296->(∀j:Int,32<=j->t.afw (j+b)=0)->∃g:Nat,h_ n t b (λ(s:Int) (o:Int) (p:Int)=>l5 o p s) (m:Int)=some (g:Int)/\g<4294967296/\∀j:Nat,g.testBit j=true↔m.testBit j=true\/0<t.afw (j+b):=by
 intro n
 induction n with
 |zero=>intro t b m h;have:=t.da;omega
 |succ n L=>
  intro t b m hn M N r O w hm c;cases t with
  |mk k i s l=>
   rw[Tm.cK] at hn M w;have hlen:=Tm.dH l;have hi:=Tm.hE N;rw[Tm.dj,ew,FX,gR] at r;have P:=eN k;rw[h_];simp only[cO]
   have x:∀j:Int,32<=j->∀t∈l,t.afw (j+(b+dr k))=0:=by
    intro j y t Q;have z:=c j y;rw[Tm.dp] at z;have V:=cV (Tm.afw (j+b+dr k)) Q;rw[show j+(b+dr k)=j+b+dr k by omega];omega
   have loop:∀(ts:List Tm) (j:Nat) (v:Nat),(∀t∈ts,t∈l)->v<4294967296->∃A:Nat,eg (λ(R:Int) (B:Tm)=>(λ(v28:Int)=>
      cH (h_ n B (b+dr k) (λ(s:Int) (o:Int) (p:Int)=>l5 o p s) v28) λC=>
      some ((.next C):eK Int Int))) ts j (v:Int)=some (.inl (A:Int))/\A<4294967296/\∀q:Nat,A.testBit q=true↔v.testBit q=true\/0<cN (Tm.afw (q+b+dr k)) ts:=by
    intro ts
    induction ts with
    |nil=>intro j v _ D;exact⟨v,aae,D,λq=>by simp[cN]⟩|cons t ts E=>
     intro j v d D;have a:=d t aae;have S:=cV Tm.afq a;obtain⟨v1,F,G,H⟩:=L t (b+dr k) v Zb Zb (hi.2.2.2.1 t a) (r.2 t a) Zb Zb D (λj y=>x j y t a);obtain⟨v2,f1,f2,f3⟩:=E (j+1) v1 (λu hu=>d u (by simp[hu])) G;refine⟨v2,?_,f2,λq=>?_⟩
     ·rw[dq,F];simp only[cG,dt];exact f1
     ·rw[f3,H];simp only[cN];rw[show(q:Int)+(b+dr k)=q+b+dr k by omega];constructor
      ·rintro((h|h)|h)
       ·exact .inl h
       ·exact .inr Zb
       ·exact .inr Zb
      ·rintro(h|h)
       ·exact .inl (.inl h)
       ·by_cases T:0<t.afw (q+b+dr k)
        ·exact .inl (.inr T)
        ·exact .inr Zb
   by_cases I:k=1
   ·subst I;rw[cL (show dC (Tm.mk 1 i s l).afo 1=true from rfl)];simp only[Tm.cX,Tm.c8,Tm.dX]
    have J:i-b<32:=by
     rcases abj (i-b) 32 with h|h
     ·exact h
     ·have z:=c (i-b) h;rw[Tm.dp,cL ⟨rfl,Zb⟩] at z;omega
    obtain⟨U,F,G,H⟩:=vL hm hi.2.1 r.1 O Zb J;rw[F,cG,pF 1 b Zb Zb,cQ Zb,cM];obtain⟨K,f1,f2,f3⟩:=loop l 0 U (λt h=>h) G;refine⟨K,?_,f2,λq=>?_⟩
    ·have e:=f1;rw[show((0:Nat))=0 from rfl] at e;rw[e,cG];rfl
    ·rw[f3,H,Tm.dp]
     by_cases f:i=q+b
     ·rw[cL ⟨rfl,f⟩];exact⟨λ_=>.inr Zb,λ_=>.inl (.inr f)⟩
     ·rw[cJ (λh=>f h.2),sZ];exact⟨λh=>h.elim (λh=>h.elim .inl λh=>absurd h f) .inr,λh=>h.elim (λh=>.inl (.inl h)) .inr⟩
   ·rw[cJ (show¬dC (Tm.mk k i s l).afo 1=true by simpa[dC] using I)];simp only[Tm.cX,Tm.c8,Tm.dX];rw[pF k b Zb Zb,cQ Zb,cM];obtain⟨K,f1,f2,f3⟩:=loop l 0 m (λt h=>h) hm;refine⟨K,by rw[f1,cG];rfl,f2,λq=>?_⟩;rw[f3,Tm.dp,cJ (λh=>I h.1),sZ]
def Mc{t:Tm}(he:t.err=0)(b:t.afu 1000000000000=true)(c:∀j:Int,32<=j->t.afw j=0):∃(l:List Int) (m:Nat),iO t=some (m:Int)/\jl t=some l/\Us l m/\∀x,x∈l↔0<=x/\0<t.afw x:=by
 obtain⟨a,hn⟩:=Tm.ey he;have hw:=t.eY a;obtain⟨m,d,e,f⟩:=yN FU t 0 0 (by have:=dn;omega) Zb a b Zb Zb Zk (λj g=>by rw[ka];exact c j g);obtain⟨l,g1,g2,_,g4⟩:=zZ (t:=t) Zb (Tm.ir t Zb b) he;refine⟨l,m,?_,by unfold jl;rw[g1];rfl,⟨e,λx h=>((g4 x).1 h).1,g2,λi=>?_⟩,g4⟩
 ·unfold iO si;rw[show(0:Int)=((0:Nat):Int)from rfl] at*;rw[d];rfl
 ·rw[g4,f,ka];simp
def mz(v:List (Int×Bool))(l:List Int):List (Int×Bool):=l.foldl (λv x=>qS v x true) v
def qw:∀(l:List Int) (v:List (Int×Bool)),(iD v).Nodup->(iD (mz v l)).Nodup/\(mz v l).length<=v.length+l.length/\∀x,x∈iD (mz v l)↔x∈iD v\/x∈l
 |[],v,h=>⟨h,by simp[mz],λx=>by simp[mz]⟩|y::l,v,h=>by
  obtain⟨a,c,b⟩:=qw l (qS v y true) (tW y true v h);refine⟨a,?_,λx=>?_⟩
  ·have:=yC y true v;show(mz (qS v y true) l).length<=_;rw[hQ];omega
  ·show x∈iD (mz (qS v y true) l)↔_;rw[b,uE,gT];constructor
   ·rintro((h|h)|h)
    ·exact .inr (.inl h)
    ·exact .inl h
    ·exact .inr (.inr h)
   ·rintro(h|h|h)
    ·exact .inl (.inr h)
    ·exact .inl (.inl h)
    ·exact .inr h
def yL{ρ:Type}:∀(l:List Int) (j:Nat) (v:List (Int×Bool)),eg (λ(c:Int) (a:Int)=>(λ(b:(List (Int×Bool)))=>some ((.next (qS b a true)):eK (List (Int×Bool)) ρ))) l j v=some (.inl (mz v l))
 |[],j,v=>by rw[lz];rfl|x::l,j,v=>by
  rw[dq];simp only[cG,dt];exact yL l (j+1) (qS v x true)
def yv{a b:List Int}(f:a.length<=1000000)(g:b.length<=1000000):∃l,e_ a b=some l/\Dk l/\∀x,x∈l↔x∈a\/x∈b:=by
 obtain⟨c,d,e⟩:=qw a [] (by simp[iD]);obtain⟨g1,g2,g3⟩:=qw b (mz [] a) c;refine⟨zk [] (iD (mz (mz [] a) b)),?_,AM _ _ .nil g1 aae,λx=>?_⟩
 ·unfold e_;simp only[cO];rw[cQ Zb,cM];rw[yL a 0 [],cG,cR,cQ Zb,cM,yL b 0 _,cG,cR];unfold ru;simp only[o7] at d;rw[cQ Zb,cM,show vW (List.map (λx=>x.1) (mz (mz [] a) b))=true from qb g1,cM];rfl
 ·rw[AN,g3,e];simp[iD]
def Us.union{a b:List Int}{m n:Nat}(c:Us a m)(d:Us b n)(e:a.length<=1000000)(f:b.length<=1000000):∃l,e_ a b=some l/\vw .u32 (m:Int) (n:Int)=((m|||n:Nat):Int)/\Us l (m|||n)/\∀x,x∈l↔x∈a\/x∈b:=by
 obtain⟨l,j,k,g⟩:=yv e f;refine⟨l,j,Bc c.lt d.lt,⟨RS (n:=32) (by have:=c.lt;omega) (by have:=d.lt;omega),λx o=>?_,k,λi=>?_⟩,g⟩
 ·rcases(g x).1 o with h|h
  ·exact c.pos x h
  ·exact d.pos x h
 ·rw[g,c.mem,d.mem,IW,mu]
def Us.bound{l:List Int}{m:Nat}(h:Us l m):∀x∈l,x<32:=by
 intro x a;have b:=h.pos x a;obtain⟨k,rfl⟩:=RL b;have:=(h.mem k).1 a;rcases zj k 32 with h1|h1
 ·omega
 ·exfalso;have c:m<2^k:=Tl h.lt (DJ (by decide:4294967296<=2^32) (ZO Zk h1));rw[ZI c] at this;cases this
def pS(k:Int)(l:List Int):List Int:=(l.filter λx=>decide (k<=x)).map λx=>x-k
def yh{k:Int}(e:0<=k)(c:k<=1000):∀(l:List Int) (j:Nat) (v:List Int),(∀x∈l,0<=x/\x<32)->v.length+l.length<=1000000->eg (λ(f:Int) (a:Int)=>(λ(b:List Int)=>
   if(sS a k) then(
   fU (eZ b [(eH .i64 a k)])<|some ((.next (fK b [(eH .i64 a k)])):eK (List Int) (List Int)))
   else(some (.next b)))) l j v=some (.inl (v++pS k l))
 |[],j,v,_,_=>by simp[pS]|x::l,j,v,h,g=>by
  simp only[hQ] at g;have i:=h x aae;rw[dq]
  by_cases d:k<=x
  ·rw[cL (by rw[fB];exact d),di aaV,cM,dF Zb Zb];simp only[cG,dt];rw[ec,yh e c l (j+1) _ (λy hy=>h y (by simp[hy])) aaV];simp[pS,d]
  ·rw[cJ (by rw[fB];exact d)];simp only[cG,dt];rw[yh e c l (j+1) v (λy hy=>h y (by simp[hy])) Zb];simp[pS,d]
def vF{l:List Int}{m:Nat}(h:Us l m)(d:l.length<=1000000){k:Int}(c:0<=k)(a:k<=1000):eT l k=some (pS k l):=by
 unfold eT;simp only[cO];rw[cQ Zb,cM,yh c a l 0 [] (λx b=>⟨h.pos x b,h.bound x b⟩) aaV,cG,cR,k9]
def yw(k:Int)(l:List Int)(x:Int):x∈pS k l↔x+k∈l/\0<=x:=by
 unfold pS;simp only[nj,NG,FX];constructor
 ·rintro⟨y,⟨a,b⟩,rfl⟩;exact⟨by rw[aa7];exact a,Zb⟩
 ·rintro⟨a,b⟩;exact⟨x+k,⟨a,Zb⟩,Zb⟩
def Cu(k:Int):∀{l:List Int},Dk l->Dk (pS k l)
 |[],_=>.nil|a::l,.cons f g=>by
  have c:=Cu k g
  by_cases d:k<=a
  ·have e:pS k (a::l)=(a-k)::pS k l:=by simp[pS,d]
   rw[e];refine .cons (λb h=>?_) c;have:=f _ ((yw k l b).1 h).1;omega
  ·have e:pS k (a::l)=pS k l:=by simp[pS,d]
   rw[e];exact c
def Us.out{l:List Int}{m:Nat}(h:Us l m)(a:l.length<=1000000){k:Nat}(b:k<=32):eT l (k:Int)=some (pS k l)/\ea (m:Int) (k:Int)=some ((m/2^k:Nat):Int)/\Us (pS k l) (m/2^k):=by
 refine⟨vF h a Zb Zb,?_,⟨Vq (aai _ _) h.lt,λx c=>((yw _ _ _).1 c).2,Cu _ h.Qc,λi=>?_⟩⟩
 ·unfold ea;rw[show H8 (k:Int)=true by simp[H8],cM,IL b]
 ·rw[yw,show(i:Int)+(k:Int)=((i+k:Nat):Int) by omega,h.mem]
  have e:(m/2^k).testBit i=m.testBit (i+k):=by rw[aa6]
  rw[e];exact⟨λh=>h.1,λh=>⟨h,Zb⟩⟩
theorem Tm.up_add(f b c:Int)(j:0<=b):∀(t:Tm) (d:Int),(t.up (f+d) b).up (f+d) c=t.up (f+d) (b+c):=by
 intro t
 induction t using Tm.ind with
 |h k i s l e=>
  intro d;rw[Tm.dV,Tm.dV,Tm.dV]
  congr 1
  ·by_cases a:k=1/\f+d<=i
   ·rw[cL a,cL ⟨a.1,Zb⟩];omega
   ·rw[cJ a,cJ a,cJ a]
  ·rw[wR]
   exact pg λx g=>by
    have:=e x g (d+dr k);rw[show f+(d+dr k)=f+d+dr k by omega] at this;exact this
theorem Fm.up_add(f b c:Int)(a:0<=b):∀(t:Fm) (d:Int),(t.up (f+d) b).up (f+d) c=t.up (f+d) (b+c):=by
 intro t
 induction t using Fm.ind with
 |h k s ts l e=>
  intro d;rw[Fm.dV,Fm.dV,Fm.dV]
  congr 1
  ·rw[wR];exact pg λx _=>Tm.up_add f b c a x d
  ·rw[wR]
   exact pg λx g=>by
    have:=e x g (d+qB k);rw[show f+(d+qB k)=f+d+qB k by omega] at this;exact this
def Fm.Mz(t:Fm){b c:Int}(a:0<=b):(t.up 0 b).up 0 c=t.up 0 (b+c):=by
 have:=Fm.up_add 0 b c a t 0
 rwa [ka] at this
def Fm.CV(t:Fm):∀f,t.up f 0=t:=by
 induction t using Fm.ind with
 |h k s ts l a=>
  intro f;rw[Fm.dV]
  congr 1
  ·rw[pg (g:=id) λx _=>Tm.oD x _];simp
  ·rw[pg (g:=id) λx b=>a x b _];simp
def Fm.oD(t:Fm):t.up 0 0=t:=Fm.CV t 0
structure Hy (f:Fm):Prop where
 err:f.err=0
 afu:f.afu 536870912=true
structure Ms (p:cS) (c:cY):Prop where
 afs:p.afs=c.afs.map mi
 vars:p.eI.vars=(c.afs.length:Int)
 afv:p.eI.afv=(c.afv.length:Int)
 ctx:fh c.afs
 nv:c.afs.length<=16
 nh:c.afv.length<=16
 known:p.known.length=c.afv.length
 hyp:∀(i:Nat) (x:de) (h:Fm),p.known[i]?=some x->c.afv[i]?=some h->Hy x.cZ/\0<=x.vars/\x.vars<=c.afs.length/\h=x.cZ.up 0 (c.afs.length-x.vars)
def Ms.with{p:cS}{c:cY}(h:Ms p c){f:Fm}(m:Hy f)(hn:c.afv.length+1<=16):∃j d,eB p f=some j/\eV c f=some d/\Ms j d/\d.lemmas=c.lemmas/\d.afs=c.afs/\d.afv=c.afv++[f]:=by
 unfold eB eV;have k:=h.known;rw[di aaV,cM,di aaV,cM];refine⟨_,_,rfl,rfl,⟨h.afs,h.vars,?_,h.ctx,h.nv,?_,?_,?_⟩,rfl,rfl,by simp only[ec]⟩
 ·show ep .i64 p.eI.afv 1=_;rw[h.afv,dk (by have:=h.nh;omega) (by have:=h.nh;omega),ec];simp
 ·show(fK c.afv [f]).length<=16;rw[ec];simpa using hn
 ·show(fK p.known _).length=(fK c.afv [f]).length;simp[ec,k]
 ·intro i x g b a
  have b:(p.known++[de.mk f p.eI.vars])[i]?=some x:=by rw[<-ec];exact b
  have a:(c.afv++[f])[i]?=some g:=by rw[<-ec];exact a
  rcases zj i c.afv.length with e|hge
  ·rw[uj Zb] at b;rw[uj e] at a;exact h.hyp i x g b a
  ·have hi:i=c.afv.length:=by
    have:=(qR.1 a).1;simp at this;omega
   subst hi;rw[xo Zb,k,TJ] at b;rw[xo Zb,TJ] at a;have n:de.mk f p.eI.vars=x:=hZ b;have o:f=g:=hZ a;subst n;subst o;have l:=h.vars;refine⟨m,by show 0<=p.eI.vars;omega,by show p.eI.vars<=_;exact Z3 l,?_⟩;show f=f.up 0 (c.afs.length-p.eI.vars);rw[l,V1];exact(Fm.oD f).symm
def fh.append{g l:List Ty}(h:fh g)(a:fh l):fh (g++l):=λs hs=>(tA.1 hs).elim (h s) (a s)
def wc{g l:List Ty}(a:fh l)(b:g.length+l.length<=900000):fi (g.map mi) l=some ((g++l).map mi):=by
 unfold fi;rw[n5 a Zb,cG,di aaV,cM,ec,SW]
def Ms.below{p:cS}{c:cY}(h:Ms p c){l:List Ty}(k:fh l)(hn:c.afs.length+l.length<=16)(n:∀f∈c.afv,f.err=0/\f.afu 1000000000=true):∃m b,en p l=some m/\ed c l=some b/\Ms m b/\b.lemmas=c.lemmas/\b.afs=c.afs++l/\b.afv=c.afv.map (Fm.up 0 l.length):=by
 have o:=h.nh
 have q:en p l=some (cS.mk (eU.mk (p.eI.vars+l.length) p.eI.afv) ((c.afs++l).map mi) p.known):=by
  unfold en;rw[h.afs,wc k Zb,cG];have:=h.vars;rw[dK,dk Zb Zb]
 have r:ed c l=some (cY.mk c.lemmas (c.afs++l) (c.afv.map (Fm.up 0 l.length))):=by
  unfold ed;simp only[cO]
  rw[di Zb,cM,cQ Zb,cM,eW (Fm.up 0 l.length) c.afv 0 [] aaV (λj x v s t=>by
   obtain⟨q1,u⟩:=n x s;obtain⟨w,y⟩:=Fm.ey q1
   rw[dK,lX FU x 0 l.length (by rw[dn];omega) Zb Zb Zb Zb Zb (Fm.ir x Zb u),cG,di (by simpa using t),cM,ec])]
  rw[cG,cR,ec,k9]
 refine⟨_,_,q,r,⟨rfl,?_,?_,h.ctx.append k,?_,?_,?_,?_⟩,rfl,rfl,rfl⟩
 ·show p.eI.vars+l.length=((c.afs++l).length:Int);rw[h.vars];simp
 ·show p.eI.afv=((c.afv.map (Fm.up 0 l.length)).length:Int);rw[h.afv];simp
 ·show(c.afs++l).length<=16;simpa using hn
 ·show(c.afv.map (Fm.up 0 l.length)).length<=16;simpa using h.nh
 ·show p.known.length=(c.afv.map (Fm.up 0 l.length)).length;simpa using h.known
 ·intro i x g d a;have d:p.known[i]?=some x:=d;have a:(c.afv.map (Fm.up 0 l.length))[i]?=some g:=a;rw[x_] at a;cases e:c.afv[i]?with
  |none=>rw[e] at a;cases a
  |some g0=>
   rw[e] at a;have a:g0.up 0 l.length=g:=hZ a;obtain⟨a1,a2,a3,a4⟩:=h.hyp i x g0 d e;refine⟨a1,a2,?_,?_⟩
   ·show x.vars<=((c.afs++l).length:Int);simp;omega
   ·show g=x.cZ.up 0 (((c.afs++l).length:Int)-x.vars);rw[<-a,a4,Fm.Mz _ Zb]
    congr 1
    simp;omega
def Ms.E3{p:cS}{c:cY}(h:Ms p c){i:Int}(hi:0<=i):if(c.afv.length:Int)<=i then j0 p i=some (.mk 0 (.mk 0 []) [] [],false)else∃f,du c.afv (eH .i64 (eH .i64 (dT c.afv) 1) i)=some f/\j0 p i=some (f,true):=by
 have g:=h.nh;have j:=h.known;unfold j0;rw[dK,j]
 split
 ·rename_i d;rw[cL (by rw[fB];exact d)]
 ·rename_i d;rw[cJ (by rw[fB];exact d),dK,dF (a:=(c.afv.length:Int)) Zb Zb,dF Zb Zb]
  have b:(((c.afv.length:Int)-1-i).toNat)<c.afv.length:=Zb
  have e:(c.afv.length:Int)-1-i=((((c.afv.length:Int)-1-i).toNat:Nat):Int):=Zb
  rw[e,fw,fw,mr b,mr Zb];obtain⟨a1,a2,a3,a4⟩:=h.hyp _ _ _ (mr Zb) (mr b);refine⟨_,rfl,?_⟩;obtain⟨k,m⟩:=Fm.ey a1.err;have l:=h.nv;rw[cG,h.vars,dF Zb Zb,nc k Zb (Fm.ir _ Zb a1.afu) Zb Zb Zb Zb,cG,<-a4]
def LR{t:Tm}(m:t.ok=true):wZ t=some t.root:=by
 unfold wZ;simp only[cO];cases t with
 |mk k i s l=>
  show(if(dC k 3) then(cH (du l 0) λg=>some (dC g.afo 2))else(
   if(dC k 6) then(cH (du l 2) λe=>if(dC e.afo 4) then some true else some (dC e.afo 5))else(
   if(dC k 9) then(cH (du l 2) λf=>if(dC f.afo 7) then some true else some (dC f.afo 8))else(
   if(fp (dC k 11) true (dC k 12)) then(cH (du l 0) λh=>some (dC h.afo 10))else some false))))=_
  unfold Tm.root
  by_cases n:k=3
  ·subst n;obtain⟨a,b,rfl⟩:=Tm.WB m;rw[cL Zk];simp[dc,Tm.kd,nq]
  ·rw[cJ (by simpa using n)]
   by_cases o:k=6
   ·subst o;obtain⟨a,b,c,rfl⟩:=Tm.WD m;rw[cL Zk];simp only[fD,iU,fL,cG,Tm.kd,dS]
    by_cases j:c.afo=4
    ·simp[j]
    ·simp[j,nq]<;>exact Ga.2 Iff.rfl
   ·rw[cJ (by simpa using o)]
    by_cases p:k=9
    ·subst p;obtain⟨a,b,c,rfl⟩:=Tm.XH m;rw[cL Zk];simp only[fD,iU,fL,cG,Tm.kd,dS]
     by_cases j:c.afo=7
     ·simp[j]
     ·simp[j,nq]<;>exact Ga.2 Iff.rfl
    ·rw[cJ (by simpa using p)]
     by_cases d:k=11\/k=12
     ·obtain⟨a,rfl⟩:=Tm.PL d m;rw[cL (by rcases d with rfl|rfl<;>rfl)];simp only[dc,fL,cG,Tm.kd];rcases d with rfl|rfl<;>simp[nq]<;>exact Ga.2 Iff.rfl
     ·rw[cJ (by simp only[gY,mu,dS];exact d)];simp only[not_or] at d;simp[n,o,p,d.1,d.2]
def rb{t:Tm}(h:t.afq<=1000000000):fM FU t=some (t.afq:Int):=iW FU t (by rw[dn];exact h) h
def Gm{t:Tm}(o:t.ok=true)(hn:t.afq<=8192)(f:t.root=true):tc t=some ((t.dm.afq:Int)-(t.afq:Int)):=by
 have j:=Tm.wE o f;have p:=hn;unfold tc;rw[rb Zb];simp only[cG];cases j with
 |app=>
  rename_i i s c d b a;have l:=Tm.c9 (Tm.c9 o (.mk 2 c d [b]) aae) b aae;rw[Tm.cK] at hn;simp only[cN,Tm.cK] at hn;rw[cL abG];simp only[Tm.cX,dc,ef,fL,iU,cG];rw[rb (t:=b) Zb,rb (t:=a) Zb,qo FU b 0 (by rw[dn];omega) Zb Zb Zb];simp only[cG];have q:=Tm.e9 b 0;have hmul:b.afw 0*a.afq<=8192*8192:=BA Zb Zb;have r:=Tm.ky a b 0 l;have u:=a.da
  have e:(Tm.mk 3 i s [.mk 2 c d [b],a]).dm=Tm.ei 0 b a:=by simp[Tm.dm]
  rw[e]
  have hint:(b.afw 0:Int)*((a.afq:Int)-1)=((b.afw 0*a.afq:Nat):Int)-(b.afw 0:Int):=by rw[N_,N1];simp
  rw[dF (a:=(a.afq:Int)) Zb Zb,p_ (by rw[hint];omega) (by rw[hint];omega),hint,dk Zb Zb,dF Zb Zb]
  congr 1
  omega
 |proj m=>
  rename_i k i s c d a b;rw[Tm.cK] at hn;simp only[cN,Tm.cK] at hn;rcases m with rfl|rfl
  ·rw[cJ aae,cJ aae,cJ aae,cL abG];simp only[Tm.cX,dc,ef,fL,iU,cG];rw[rb (t:=a) Zb];simp only[cG];rw[dF Zb Zb];simp[Tm.dm]
  ·rw[cJ aae,cJ aae,cJ aae,cJ aae];simp only[Tm.cX,dc,ef,fL,iU,cG];rw[rb (t:=b) Zb];simp only[cG];rw[dF Zb Zb];simp[Tm.dm]
 |zero m=>
  rename_i k v i s c d b st;rw[Tm.cK] at hn;simp only[cN,Tm.cK] at hn
  have g:k≠3/\k≠11/\k≠12:=Zb
  have:(Tm.mk k i s [b,st,.mk v c d []]).dm=b:=by simp[Tm.dm,g.1,g.2.1,g.2.2]
  rw[this];rcases m with⟨rfl,rfl⟩|⟨rfl,rfl⟩
  ·rw[cJ aae,cL abG];simp only[Tm.cX,dc,ef,fD,fL,iU,cG];rw[cL abG,rb (t:=b) Zb];simp only[cG];rw[dF Zb Zb]
  ·rw[cJ aae,cJ aae,cL abG];simp only[Tm.cX,dc,ef,fD,fL,iU,cG];rw[cL abG,rb (t:=b) Zb];simp only[cG];rw[dF Zb Zb]
 |succ=>
  rename_i i s c d b st n
  have e:(Tm.mk 6 i s [b,st,.mk 5 c d [n]]).dm=gA st [n,.mk 6 i s [b,st,n]]:=by simp[Tm.dm,gA]
  rw[e,jt];rw[Tm.cK] at hn|-;simp only[cN,Tm.cK,hQ,o7] at hn|-;rw[cJ aae,cL abG];simp only[Tm.cX,dc,ef,fD,fL,iU,cG];rw[cJ aae,rb (t:=st) Zb,rb (t:=n) Zb];simp only[cG];rw[dk (a:=2) Zb Zb,dk (b:=(n.afq:Int)) Zb Zb,dk Zb Zb,dF (b:=1) Zb Zb,dF Zb Zb]
  congr 1
  omega
 |cons=>
  rename_i i s c d b st h n
  have e:(Tm.mk 9 i s [b,st,.mk 8 c d [h,n]]).dm=gA st [h,n,.mk 9 i s [b,st,n]]:=by simp[Tm.dm,gA]
  rw[e,jt];rw[Tm.cK] at hn|-;simp only[cN,Tm.cK,hQ,o7] at hn|-;rw[cJ aae,cJ aae,cL abG];simp only[Tm.cX,dc,ef,fD,fL,iU,cG];rw[cJ aae,rb (t:=st) Zb,rb (t:=h) Zb,rb (t:=n) Zb];simp only[cG];rw[dk (a:=3) Zb Zb,dk (b:=(h.afq:Int)) Zb Zb,dk (b:=(n.afq:Int)) Zb Zb,dk Zb Zb,dF (b:=1) Zb Zb,dF (b:=(h.afq:Int)) Zb Zb,dF Zb Zb]
  congr 1
  omega
def EW{M:Int}(o:0<=M/\M<=1000000000000){t:Tm}(hs:Sm M t)(hn:t.afq<=8192)(c:t.root=true):rq t=some t.dm:=by
 have j:=hs.ok;have l:=Tm.wE j c;have hw:=Tm.eY t j;unfold rq;cases l with
 |app=>
  rename_i i s e f b a;have d:=(hs.arg (.mk 2 e f [b]) aae).arg b aae;have g:=hs.arg a aae;have p:=d.afq;have q:=g.afq;rw[cL abG];simp only[Tm.cX,dc,ef,fL,iU,cG];rw[uB FU b 0 0 a (by rw[dn];omega) Zb Zb Zb Zb (d.mono o.2).afu d.ok Zb (g.mono o.2).afu];simp[Tm.dm]
 |proj m=>
  rename_i k i s e f a b;rcases m with rfl|rfl
  ·rw[cJ aae,cJ aae,cJ aae,cL abG];simp[Tm.dm,dc]
  ·rw[cJ aae,cJ aae,cJ aae,cJ aae];simp[Tm.dm,dc,ef]
 |zero m=>
  rename_i k r i s e f b st;rcases m with⟨rfl,rfl⟩|⟨rfl,rfl⟩
  ·rw[cJ aae,cL abG];simp[Tm.dm,dc,fD,dC]
  ·rw[cJ aae,cJ aae,cL abG];simp[Tm.dm,dc,fD,dC]
 |succ=>
  rename_i i s e f b st n;have hi:i=0:=(Tm.hE j).2.2.1 Zk;subst hi;rw[Tm.dD] at hw;simp only[cN,Tm.dD] at hw;rw[cJ aae,cL abG];simp only[Tm.cX,dc,ef,fD,fL,iU,cG,Tm.ds];rw[cJ aae,mP Zb Zb];simp only[cG];rw[u_ Zb Zb Zb Zb];simp only[cG];rw[kq _ _ (by simp only[cN,Tm.dD,Ty.z,Ty.cK];omega)];simp[Tm.dm,gA,Ty.z]
 |cons=>
  rename_i i s e f b st h n;have hi:i=0:=(Tm.hE j).2.2.1 Zk;subst hi;rw[Tm.dD] at hw;simp only[cN,Tm.dD] at hw;rw[cJ aae,cJ aae,cL abG];simp only[Tm.cX,dc,ef,fD,fL,iU,cG,Tm.ds];rw[cJ aae,mP Zb Zb];simp only[cG];rw[kq _ _ (by simp only[cN,Tm.dD,Ty.z,Ty.cK];omega)];simp only[cG];rw[u_ Zb Zb Zb Zb];simp only[cG];rw[kq _ _ (by simp only[cN,Tm.dD,Ty.z,Ty.cK];omega)];simp[Tm.dm,gA,Ty.z]
def O7(t:Tm)(o:Option (Option Tm))(r:Tm×Bool×Bool):Prop:=
 match o with
 |none=>r.2.1=true/\r.2.2=false|some none=>r=(t,false,true)|some (some a)=>r=(a,true,true)
def Fl{M:Int}(C:0<=M/\M<=1000000000000)(room:Int):∀(n:Nat) (t:Tm),t.afq<=n->Sm M t->t.afq<=8192->∃r,nZ n t room=some r/\O7 t (t.yl room) r
 |0,t,hn,_,_=>by have:=t.da;omega
 |n+1,.mk k i s l,hn,hs,B=>by
  rw[nZ,LR hs.ok];simp only[cG];rw[Tm.tM]
  by_cases p:(Tm.mk k i s l).root=true
  ·rw[cL p,cL p,Gm hs.ok B p];simp only[cG,eb]
   by_cases hg:((Tm.mk k i s l).dm.afq:Int)-((Tm.mk k i s l).afq:Int)>room
   ·rw[cL hg,cL hg];exact⟨_,rfl,rfl,rfl⟩
   ·rw[cJ hg,cJ hg,EW C hs B p];exact⟨_,rfl,rfl⟩
  ·rw[cJ p,cJ p];rw[Tm.cK] at hn B;have hlen:=Tm.Ij hs.ok;simp only[Tm.cX,cO,cQ (l:=l) Zb,cM,Tm.c8,Tm.dX,Tm.ds]
   have key:∀(ts pre:List Tm),l=pre++ts->∃o,eg (λ(a:Int) (v:Tm)=>(λ(_:Unit)=>
     iG (nZ n v room) λw x y=>
     if x then(
     fU (wM l)<|cH (du l a) λD=>
     some (eK.ret ((Tm.mk k i s (ya l a w)),true,y)))
     else(some (.next ())))) ts pre.length ()=some o/\(match Tm.lM room ts with
      |none=>∃r:Tm×Bool×Bool,o=.inr r/\r.2.1=true/\r.2.2=false|some none=>o=.inl ()|some (some g)=>o=.inr (Tm.mk k i s (pre++g),true,true)):=by
    intro ts
    induction ts with
    |nil=>intro pre _;exact⟨_,rfl,by rw[Tm.lM]⟩|cons t ts E=>
     intro pre z
     have h:t∈l:=by rw[z];simp
     have F:=cV Tm.afq h;obtain⟨⟨u,b,c⟩,G,j⟩:=Fl C room n t Zb (hs.arg t h) Zb;rw[dq];simp only[G,iY]
     have d:du l ((pre.length:Nat):Int)=some t:=by
      unfold du;rw[cL Zb];rw[z];simp
     have iE:ya l ((pre.length:Nat):Int) u=pre++u::ts:=by
      unfold ya;rw[z,AZ,yg]
     have f:wM l=true:=by
      unfold wM m0;have:0<l.length:=abb h;exact qb Zb
     rw[Tm.lM];unfold O7 at j;cases e:t.yl room with
     |none=>
      rw[e] at j;obtain⟨q1,A⟩:=j;simp only at q1 A;rw[cL q1,f,cM,d];exact⟨_,rfl,_,rfl,rfl,A⟩
     |some o=>
      cases o with
      |none=>
       rw[e] at j;obtain⟨rfl,q⟩:=fa j;obtain⟨rfl,rfl⟩:=fa q;rw[cJ Zk];simp only[cG,dt];obtain⟨o,o1,o2⟩:=E (pre++[u]) (by rw[z];simp);rw[oG] at o1;refine⟨o,o1,?_⟩;cases m:Tm.lM room ts with
       |none=>rw[m] at o2;exact o2
       |some q=>
        cases q with
        |none=>rw[m] at o2;exact o2
        |some g=>rw[m] at o2;simpa using o2
      |some H=>
       rw[e] at j;obtain⟨rfl,q⟩:=fa j;obtain⟨rfl,rfl⟩:=fa q;rw[cL rfl,f,cM,d];simp only[cG,iE];exact⟨_,rfl,rfl⟩
   obtain⟨o,o1,o2⟩:=key l [] rfl;rw[show(([]:List Tm).length)=0 from rfl] at o1;rw[o1];cases m:Tm.lM room l with
   |none=>
    rw[m] at o2;obtain⟨r,rfl,q1,A⟩:=o2;exact⟨r,rfl,q1,A⟩
   |some q=>
    cases q with
    |none=>rw[m] at o2;subst o2;exact⟨_,rfl,rfl⟩
    |some g=>rw[m] at o2;subst o2;exact⟨_,rfl,rfl⟩
def iC{t:Tm}(h:t.err=0):t.ok=true/\t.afq<=4096:=Tm.ey h
def uC(steps:Int)(z:0<=steps/\steps<=65536):∀(k:Nat) (m:Int) (t:Tm) (N:Nat),(k:Int)=steps-m->0<=m->Sm (536870912+8192*m) t->t.afq<=4096->k<N->ow ((Qd λ(d:Int) (f:Int) (g:Int) (i:Int) (j:List Ty) (l:List Tm)=>
   cH (fM FU (Tm.mk f g (Ty.mk i j) l)) λr=>
   iG (nZ FU (Tm.mk f g (Ty.mk i j) l) (eH .i64 4096 r)) λa s v=>
   if s then(
   if(dC d steps) then(
   some (.ret ((Tm.mk 0 0 (Ty.mk 0 []) []),0,5)))
   else(if v then(
   some (.next ((ep .i64 d 1),a.afo,a.afr,a.cW.afo,a.cW.afp,a.afp)))
   else(some (.ret ((Tm.mk 0 0 (Ty.mk 0 []) []),0,4)))))
   else(cH (kU FU (Tm.mk f g (Ty.mk i j) l)) λw=>
   some (.ret (w,d,0)))):(Int×Int×Int×Int×(List Ty)×(List Tm))->(Option (eK (Int×Int×Int×Int×(List Ty)×(List Tm)) (Tm×Int×Int)))) N (m,t.afo,t.afr,t.cW.afo,t.cW.afp,t.afp)=some (.inr (t.norm k m))
 |k,m,t,0,_,_,_,_,A=>by omega|k,m,t,N+1,C,hm,hs,hn,A=>by
  rw[jL];simp only[Bn,OF];have hw:=Tm.eY t hs.ok;rw[rb Zb];simp only[cG];rw[dF Zb Zb];obtain⟨⟨u,b,c⟩,B,n⟩:=Fl (M:=536870912+8192*m) Zb (4096-t.afq) FU t (by rw[dn];omega) hs Zb;rw[B];simp only[iY];unfold O7 at n;cases e:t.yl (4096-t.afq)with
  |none=>
   rw[e] at n;obtain⟨q1,y⟩:=n;simp only at q1 y;rw[cL q1];cases k with
   |zero=>
    have p:¬t.nf=true:=by
     intro h;rw[(rK _ t).1 h] at e;cases e
    rw[cL (by simp[dC];omega),Tm.norm,cJ p];rfl
   |succ k=>
    rw[cJ (by simp[dC];omega),cJ (by rw[y];decide),C7 e];rfl
  |some o=>
   cases o with
   |none=>
    rw[e] at n;obtain⟨rfl,q⟩:=fa n;obtain⟨rfl,rfl⟩:=fa q;rw[cJ Zk,iL Zb];cases k with
    |zero=>rw[Tm.norm,cL ((rK _ _).2 e)];rfl|succ k=>rw[sD e];rfl
   |some D=>
    rw[e] at n;obtain⟨rfl,q⟩:=fa n;obtain⟨rfl,rfl⟩:=fa q;rw[cL rfl];cases k with
    |zero=>
     have p:¬t.nf=true:=by
      intro h;rw[(rK _ t).1 h] at e;cases e
     rw[cL (by simp[dC];omega),Tm.norm,cJ p];rfl
    |succ k=>
     obtain⟨s1,s2,E⟩:=BF (M:=536870912+8192*m) Zb t hs Zb _ e;rw[cJ (by simp[dC];omega),cL rfl,sh e,dk Zb Zb];have x:Sm (536870912+8192*(m+1)) u:=⟨s1,by rw[show 536870912+8192*(m+1)=536870912+8192*m+8192 by omega];exact s2,Zb⟩;exact uC steps z k (m+1) u N Zb Zb x Zb Zb
def Az:∀(k:Nat) (m:Int) (t p:Tm) (n e:Int),t.norm k m=(p,n,e)->e≠0->p=Tm.z
 |0,m,t,p,n,e,h,he=>by
  rw[Tm.norm] at h
  split at h
  ·obtain⟨_,h⟩:=fa h;obtain⟨_,h⟩:=fa h;exact absurd h.symm he
  ·exact(fa h).1.symm
 |k+1,m,t,p,n,e,h,he=>by
  rw[Tm.norm] at h
  split at h
  ·exact(fa h).1.symm
  ·obtain⟨_,h⟩:=fa h;obtain⟨_,h⟩:=fa h;exact absurd h.symm he
  ·exact Az k _ _ _ _ _ h he
def rF{t:Tm}(hw:t.wt<=1000000)(steps:Int):∃p m e,jP t steps=some (p,m,e)/\lF t steps=some (p,m,e)/\p.wt<=1000000000:=by
 have i:=t.eJ
 have c:Tm.z.wt<=1000000000:=Zk
 have a:=pU (t:=t) Zb steps;unfold lF;rw[hY Zb];simp only[cG]
 by_cases he:t.err=0
 ·obtain⟨j,hn⟩:=iC he;rw[cL he] at a;rw[cJ (by simp[dI,he])];simp only[cO,hW,eb]
  by_cases a1:steps<0
  ·rw[cJ Zb] at a;rw[cL a1,cL trivial];exact⟨_,_,_,a,rfl,c⟩
  ·rw[cJ a1]
   by_cases a2:steps>65536
   ·rw[cJ Zb] at a;rw[cL a2,cL trivial];exact⟨_,_,_,a,rfl,c⟩
   ·rw[cJ a2,oh FU t 536870912 (by rw[dn];omega) Zb];simp only[cG]
    by_cases b:t.afu 536870912=true
    ·rw[cL ⟨Zb,Zb,b⟩] at a;have hs:Sm 536870912 t:=⟨j,b,Zb⟩;rw[b,cJ Zk,uC steps Zb steps.toNat 0 t FU Zb Zb hs Zb (by rw[dn];omega)];generalize d:t.norm steps.toNat 0=o at a;obtain⟨p,m,e⟩:=o;refine⟨p,m,e,a,rfl,?_⟩;have f:=rE steps.toNat 0 t
     by_cases g:e=0
     ·subst g;obtain⟨q1,k⟩:=xJ _ 536870912 _ _ _ _ Zb hs hn d;have:=Tm.eY p q1.ok;omega
     ·rw[Az _ _ _ _ _ _ d g];exact c
    ·rw[cJ (λh=>b h.2.2)] at a;rw[cL (by rw[Z_] at b;rw[b];rfl)];exact⟨_,_,_,a,rfl,c⟩
 ·rw[cJ he] at a;rw[cL (by simp[dI,he])];exact⟨_,_,_,a,rfl,c⟩
def AE{a b:Tm}(c:a.wt<=1000000000):∃r,qW a b=some r/\jk FU a b=some r:=by
 obtain⟨r,d,e⟩:=o6 (b:=b) c;obtain⟨q,q1,f⟩:=tu FU a b (by rw[dn];exact c) c
 have:r=q:=by rw[vR,e,f]
 subst this;exact⟨r,d,q1⟩
def Ed{a b:Tm}(l:a.wt<=1000000)(o:b.wt<=1000000)(steps:Int):∃c,jj a b steps=some c/\qO a b steps=some c:=by
 unfold jj qO;rw[kr Zb,kr (t:=b) Zb,hY Zb,hY (t:=b) Zb];simp only[cG]
 by_cases d:dI a.err 0=true
 ·rw[cL d,cL d];exact⟨_,rfl,rfl⟩
 ·rw[cJ d,cJ d]
  by_cases g:dI b.err 0=true
  ·rw[cL g,cL g];exact⟨_,rfl,rfl⟩
  ·rw[cJ g,cJ g];obtain⟨r,u,v⟩:=AE (a:=a) (b:=b) Zb;rw[u,v];simp only[cG]
   by_cases h:r=true
   ·rw[cL h,cL h];exact⟨_,rfl,rfl⟩
   ·rw[cJ h,cJ h];obtain⟨p,m,e,w,x,y⟩:=rF l steps;obtain⟨q,n,f,q1,z,A⟩:=rF o steps;rw[w,x,q1,z];simp only[iY]
    by_cases i:dI e 0=true
    ·rw[cL i,cL i];exact⟨_,rfl,rfl⟩
    ·rw[cJ i,cJ i]
     by_cases j:dI f 0=true
     ·rw[cL j,cL j];exact⟨_,rfl,rfl⟩
     ·rw[cJ j,cJ j];obtain⟨s,s1,s2⟩:=AE (a:=p) (b:=q) y;rw[s1,s2];simp only[cG]
      by_cases k:s=true
      ·rw[cL k];exact⟨_,rfl,rfl⟩
      ·rw[cJ k];exact⟨_,rfl,rfl⟩
def vH{α:Type}{E E':α->α->Option Int}{M:List α}:∀(l:List α) (i:Nat),(∀x∈l,∀y∈M,∃c,E x y=some c/\E' x y=some c)->i+l.length<=M.length->∃o,eg (λ(d:Int) (e:α)=>(λ(_:Unit)=>cH (du M d) λb=>cH (E e b) λa=>if(dI a 0) then(some (.ret a))else(some ((.next ()):eK Unit Int)))) l i ()=some o/\eg (λ(d:Int) (e:α)=>(λ(_:Unit)=>cH (du M d) λb=>cH (E' e b) λa=>if(dI a 0) then(some (.ret a))else(some ((.next ()):eK Unit Int)))) l i ()=some o
 |[],i,_,_=>⟨.inl (),aae,aae⟩|x::l,i,h,g=>by
  simp only[hQ] at g;obtain⟨c,j,k⟩:=h x aae M[i] (zf Zb);rw[dq,dq,fw,mr Zb];simp only[cG,j,k]
  by_cases f:dI c 0=true
  ·rw[cL f];exact⟨.inr c,rfl,rfl⟩
  ·rw[cJ f];simp only[cG,dt];exact vH l (i+1) (λy hy=>h y (by simp[hy])) Zb
def Fm.shape{k:Int}{s f:Ty}{ts us:List Tm}{l m:List Fm}(h:(Fm.mk k s ts l).ok=true)(d:(Fm.mk k f us m).ok=true):ts.length=us.length/\l.length=m.length:=by
 rw[Fm.eu] at h d;simp only[ew] at h d;have c:=h.1.1;have a:=d.1.1;unfold Fm.node at c a
 split at c
 ·rename_i e;rw[cL e] at a;simp only[ew,j8] at c a;omega
 ·rename_i e;rw[cJ e] at a
  split at c
  ·rename_i b;rw[cL b] at a;simp only[ew,j8] at c a;omega
  ·rename_i b;rw[cJ b] at a;simp only[ew,j8] at c a;omega
def D6:∀(n:Nat) (a b:Fm),a.wt<=n->a.wt<=1000000->b.wt<=1000000->a.ok=true->b.ok=true->∃c,ic n a b=some c/\pN n a b=some c:=by
 intro n
 induction n with
 |zero=>intro t b h;have:=t.eL;omega
 |succ n w=>
  intro a b h z g p d;cases a with
  |mk k s ts l=>
  cases b with
  |mk k' A us m=>
   rw[Fm.dD] at h z g;have D:=Fm.jh l;have B:=Tm.jh ts;rw[ic,pN];simp only[Fm.cX,Fm.c8,Fm.eF,Fm.ds,cO,cQ (l:=l) Zb,cQ (l:=ts) Zb,cM,cP]
   by_cases e:k≠k'
   ·rw[cL e,cL e];exact⟨11,rfl,rfl⟩
   ·rw[cJ e,cJ e,kh Zb,fm Zb];simp only[cG];have i:k=k':=nN.1 e;subst i;obtain⟨s1,s2⟩:=Fm.shape p d;obtain⟨_,F,ol⟩:=Fm.kZ p;obtain⟨_,C,j⟩:=Fm.kZ d;cases s.fX A with
    |false=>exact⟨11,rfl,rfl⟩|true=>
     obtain⟨o,q,k2⟩:=vH (E:=λx y=>jj x y 1000) (E':=λx y=>qO x y 1000) (M:=us) ts 0 (λx f y hy=>Ed (by have:=cV Tm.wt f;omega) (by have:=cV Tm.wt hy;omega) 1000) Zb;simp only[cP] at q k2;rw[cJ Zk,cJ Zk,q,k2];cases o with
     |inr r=>exact⟨r,rfl,rfl⟩|inl u=>
      simp only[cG,cR];obtain⟨o,q1,v⟩:=vH (E:=λx y=>ic n x y) (E':=λx y=>pN n x y) (M:=m) l 0 (λx f y hy=>w x y (by have:=cV Fm.wt f;omega) (by have:=cV Fm.wt f;omega) (by have:=cV Fm.wt hy;omega) (ol x f) (j y hy)) Zb;simp only[cP] at q1 v;rw[q1,v];cases o with
      |inr r=>exact⟨r,rfl,rfl⟩|inl u=>exact⟨0,rfl,rfl⟩
def tV{a b:Fm}(f:a.wt<=1000000000)(g:b.wt<=1000000000):∃c,gZ a b=some c/\mc a b=some c:=by
 unfold gZ mc;rw[gJ f,gJ g,iv f,iv g];simp only[cG,cP]
 by_cases d:a.err≠0
 ·rw[cL d,cL d];exact⟨_,rfl,rfl⟩
 ·rw[cJ d,cJ d]
  by_cases e:b.err≠0
  ·rw[cL e,cL e];exact⟨_,rfl,rfl⟩
  ·rw[cJ e,cJ e];obtain⟨o1,n1⟩:=Fm.ey (nN.1 d);obtain⟨o2,n2⟩:=Fm.ey (nN.1 e);have j:=a.eY o1;have k:=b.eY o2;obtain⟨c,h,i⟩:=D6 FU a b (by rw[dn];omega) Zb Zb o1 o2;rw[h,i];exact⟨c,rfl,rfl⟩
def oQ{g:List Ty}{x:Tm}{t:Ty}(h:dd g x t)(hg:fh g)(a:g.length+x.afq<=1000000):x.ty g=(t,0):=by
 have b:=(Jo h hg).2 x.afq (jM _) a;rw[rH x.afq x (jM _) h.ok g hg a] at b;exact hZ b
def Cj{g:List Ty}{x:Tm}(c:x.ok=true)(hg:fh g)(h:jb x g 1=0):dd g x .nat:=by
 unfold jb at h
 split at h
 ·cases h
 ·rename_i d
  have e:(x.ty g).1.afo=1:=by
   rcases ZU (x.ty g).1.afo with _|_<;>
   ·by_cases a:(x.ty g).1.afo=1
    ·exact a
    ·exact absurd ⟨h,a⟩ d
  obtain⟨b,f⟩:=kX _ x (jM _) c g hg _ (qN h);rw[(og f).1 e] at b;exact b
def A4{g:List Ty}{x:Tm}(h:dd g x .nat)(hg:fh g)(a:g.length+x.afq<=1000000):jb x g 1=0:=by
 unfold jb;rw[oQ h hg a];exact cJ (λh=>h.2 rfl)
def lx(f:Fm)(o:f.ok=true):∀g,fh g->f.nI g=0->eX g f:=by
 refine Fm.jJ (p:=λf=>∀g,fh g->f.nI g=0->eX g f) ?_ ?_ ?_ f o
 ·intro a b j n g hg h;rw[Fm.m5] at h
  by_cases c:jb a g 1=0
  ·by_cases e:jb b g 1=0
   ·exact .eq (Cj j hg c) (Cj n hg e)
   ·simp[dB,c,e] at h
  ·simp[dB,c] at h
 ·intro k a b i j n d l g hg h
  have m:gv k=false:=by rcases i with rfl|rfl<;>rfl
  rw[Fm.m5,m] at h;simp only[h9,dB,jc,if_true,qa,jm] at h
  by_cases c:a.nI g=0
  ·rw[cL c] at h
   by_cases e:b.nI g=0
   ·exact .two i (d g hg c) (l g hg e)
   ·rw[cJ e] at h;exact absurd h e
  ·rw[cJ c] at h;exact absurd h c
 ·intro k s a i hs j d g hg h
  have m:gv k=true:=by rcases i with rfl|rfl|rfl|rfl<;>rfl
  rw[Fm.m5,m] at h;simp only[h9,dB,jc,if_true] at h
  by_cases c:a.nI (g++[s])=0
  ·exact .q i hs (d _ (hg.app hs) c)
  ·rw[cJ c] at h;exact absurd h c
def jT{g:List Ty}{f:Fm}(h:eX g f):fh g->g.length+f.afq<=1000000->f.nI g=0:=by
 induction h with
 |eq l m=>
  intro hg c;rw[Fm.cK] at c;simp only[cN] at c;rw[Fm.m5];simp[dB,A4 l hg Zb,A4 m hg Zb]
 |two d _ _ e i=>
  intro hg c;rw[Fm.cK] at c;simp only[cN] at c;rename_i k a b _ _
  have j:gv k=false:=by rcases d with rfl|rfl<;>rfl
  rw[Fm.m5,j];simp[dB,e hg Zb,i hg Zb]
 |q d hs _ n=>
  intro hg c;rw[Fm.cK] at c;simp only[cN] at c;rename_i k s a _
  have j:gv k=true:=by rcases d with rfl|rfl|rfl|rfl<;>rfl
  rw[Fm.m5,j];simp[dB,n (hg.app hs) aaV]
def eX.up{g:List Ty}{f:Fm}(h:eX g f):∀g1 g2 e:List Ty,g=g1++g2->eX (g1++e++g2) (f.up g2.length e.length):=by
 induction h with
 |eq l m=>
  intro g1 g2 e hg;rw[Fm.dV];exact .eq (l.up g1 g2 e hg) (m.up g1 g2 e hg)
 |two c _ _ d i=>
  intro g1 g2 e hg;rename_i k a b _ _
  have j:qB k=0:=by rcases c with rfl|rfl<;>rfl
  rw[Fm.dV,j,ka];exact .two c (d g1 g2 e hg) (i g1 g2 e hg)
 |q c hs _ n=>
  intro g1 g2 e hg;rename_i k s a _
  have j:qB k=1:=by rcases c with rfl|rfl|rfl|rfl<;>rfl
  subst hg;have:=n g1 (g2++[s]) e (by rw[ml]);rw[Fm.dV,j];rw[oG,<-ml] at this;exact .q c hs this
def eX.lift{g:List Ty}{f:Fm}(h:eX g f)(e:List Ty):eX (g++e) (f.up 0 e.length):=by
 have:=h.up g [] e aae;simpa using this
theorem eX.ei{g:List Ty}{f:Fm}(h:eX g f):∀(g1:List Ty) (s:Ty) (g2:List Ty) (a:Tm),g=g1++[s]++g2->dd g1 a s->eX (g1++g2) (Fm.ei g2.length f a):=by
 induction h with
 |eq j l=>
  intro g1 s g2 a hg b;rw[Fm.dQ];exact .eq (j.ei g1 s g2 a hg b) (l.ei g1 s g2 a hg b)
 |two c _ _ d e=>
  intro g1 s g2 a hg b;rename_i k x y _ _
  have i:qB k=0:=by rcases c with rfl|rfl<;>rfl
  rw[Fm.dQ,i,ka];exact .two c (d g1 s g2 a hg b) (e g1 s g2 a hg b)
 |q c hs _ m=>
  intro g1 s g2 a hg b;rename_i k n x _
  have i:qB k=1:=by rcases c with rfl|rfl|rfl|rfl<;>rfl
  subst hg;have:=m g1 s (g2++[n]) a aae b;rw[Fm.dQ,i];rw[oG,<-ml] at this;exact .q c hs this
theorem eX.put{g:List Ty}{s:Ty}{f:Fm}(h:eX (g++[s]) f){a:Tm}(b:dd g a s):eX g (Fm.ei 0 f a):=by
 have:=h.ei g s [] a aae b;simpa using this
def dd.front{g:List Ty}{x:Tm}{t:Ty}(h:dd g x t)(e:List Ty):dd (e++g) x t:=by
 induction h with
 |@var g t i c j=>
  refine .var i aaV ?_;rw[xo aaV,<-j]
  congr 1
  simp;omega
 |lam c _ d=>exact .lam c (by rw[ml];exact d)|app _ _ a b=>exact .app a b|zero=>exact .zero|succ _ d=>exact .succ d|m4 c _ _ _ a b f=>exact .m4 c a b f|nil=>exact .nil|cons _ _ a b=>exact .cons a b|fold c _ _ _ a b f=>exact .fold c a b f|pair c _ _ a b=>exact .pair c a b|fst _ d=>exact .fst d|snd _ d=>exact .snd d|unit=>exact .unit
def eX.front{g:List Ty}{f:Fm}(h:eX g f)(e:List Ty):eX (e++g) f:=by
 induction h with
 |eq d i=>exact .eq (d.front e) (i.front e)|two a _ _ b c=>exact .two a b c|q a hs _ j=>exact .q a hs (by rw[ml];exact j)
structure Hg (g:List Ty) (f:Fm):Prop where
 err:f.err=0
 ty:eX g f
def Hg.afq{g:List Ty}{f:Fm}(h:Hg g f):f.afq<=4096:=(Fm.ey h.err).2
def Hg.ok{g:List Ty}{f:Fm}(h:Hg g f):f.ok=true:=(Fm.ey h.err).1
def Hg.afu{g:List Ty}{f:Fm}(h:Hg g f)(hg:g.length<=16){m:Int}(hm:5000<=m):f.afu m=true:=h.ty.afu m (by have:=h.afq;omega)
def Hg.hy{g:List Ty}{f:Fm}(h:Hg g f)(hg:g.length<=16):Hy f:=⟨h.err,h.afu hg Zb⟩
def Hg.up{g:List Ty}{f:Fm}(h:Hg g f)(l:List Ty):Hg (g++l) (f.up 0 l.length):=by
 have hn:=Fm.jo f 0 l.length;obtain⟨a,b⟩:=Fm.ey h.err;refine⟨?_,h.ty.lift l⟩;unfold Fm.err;rw[Fm.re f 0 l.length Zb Zb,a,cL rfl,hn,cJ Zb]
structure PG (L:List Fm) (p:cS) (c:cY):Prop where
 pl:Ms p c
 zl:c.lemmas=L
 Oq:∀f∈L,Hg [] f
 afv:∀f∈c.afv,Hg c.afs f
def PG.JB{L:List Fm}{p:cS}{c:cY}(h:PG L p c){l:List Ty}(j:fh l)(hn:c.afs.length+l.length<=16):∃d a,en p l=some d/\ed c l=some a/\PG L d a/\a.afs=c.afs++l/\a.afv=c.afv.map (Fm.up 0 l.length):=by
 obtain⟨d,a,k,m,n,o,g,i⟩:=h.pl.below j hn (λf b=>⟨(h.afv f b).err,(h.afv f b).afu h.pl.nv Zb⟩);refine⟨d,a,k,m,⟨n,o.trans h.zl,h.Oq,λf b=>?_⟩,g,i⟩;rw[i] at b;obtain⟨f0,e,rfl⟩:=nj.1 b;rw[g];exact(h.afv f0 e).up l
def PG.below{L:List Fm}{p:cS}{c:cY}(h:PG L p c){s:Ty}(hs:s.err=0)(hn:c.afs.length+1<=16):∃b a,en p [s]=some b/\ed c [s]=some a/\PG L b a/\a.afs=c.afs++[s]/\a.afv=c.afv.map (Fm.up 0 1):=
 h.JB (l:=[s]) (λx d=>by rw[qn.1 d];exact hs) hn
def PG.with{L:List Fm}{p:cS}{c:cY}(h:PG L p c){f:Fm}(d:Hg c.afs f)(hn:c.afv.length+1<=16):∃b a,eB p f=some b/\eV c f=some a/\PG L b a/\a.afs=c.afs/\a.afv=c.afv++[f]:=by
 obtain⟨b,a,i,j,k,l,e,g⟩:=h.pl.with (d.hy h.pl.nv) hn;refine⟨b,a,i,j,⟨k,l.trans h.zl,h.Oq,λx hx=>?_⟩,e,g⟩;rw[g] at hx;rw[e];rcases tA.1 hx with hx|hx
 ·exact h.afv x hx
 ·rw[qn.1 hx];exact d
def PG.room{L:List Fm}{p:cS}{c:cY}(h:PG L p c){v k:Nat}(e:v<=100)(f:k<=100):(dh p.eI v k=some 0/\df c v k=some 0/\c.afs.length+v<=16/\c.afv.length+k<=16)\/(dh p.eI v k=some 3/\df c v k=some 3/\(16<c.afs.length+v\/16<c.afv.length+k)):=by
 unfold dh df;have b:=h.pl.vars;have d:=h.pl.afv;have g:=h.pl.nv;have i:=h.pl.nh;rw[b,d,dK,dK,dk Zb Zb,dk Zb Zb,gY]
 by_cases a:(pc ((c.afs.length:Int)+v) 16||pc ((c.afv.length:Int)+k) 16)=true
 ·rw[cL a];simp only[mu,eb] at a;exact .inr ⟨rfl,rfl,Zb⟩
 ·rw[cJ a];simp only[mu,eb,not_or] at a;exact .inl ⟨rfl,rfl,Zb,Zb⟩
def Dk.len{N:Int}:∀{l:List Int} {lo:Int},Dk l->(∀x∈l,lo<=x/\x<N)->(l.length:Int)<=max 0 (N-lo)
 |[],lo,_,_=>by simp;omega|a::l,lo,.cons c d,h=>by
  have e:=h a aae;have f:=Dk.len (lo:=a+1) d (λx b=>⟨by have:=c x b;omega,(h x (by simp[b])).2⟩);simp only[hQ];omega
def Us.len{l:List Int}{m:Nat}(h:Us l m):l.length<=32:=by
 have:=Dk.len (N:=32) (lo:=0) h.Qc (λx a=>⟨h.pos x a,h.bound x a⟩);omega
def dd.Ai{g:List Ty}{x:Tm}{t:Ty}(h:dd g x t):∀j:Int,(g.length:Int)<=j->x.afw j=0:=by
 induction h with
 |@var g t i k l=>
  intro j a;rw[Tm.dp,cJ (λh=>by have:=h.2;omega)];rfl
 |@lam g s b t k _ e=>
  intro j a;rw[Tm.dp,cJ (λh=>by cases h.1)];simp only[cN];rw[e (j+dr 2) (by show _<=j+1;simp;omega)]
 |app _ _ c d=>intro j a;rw[Tm.dp,cJ (λh=>by cases h.1)];simp only[cN,show dr 3=0 from rfl,ka,c j a,d j a]
 |zero=>intro j a;rw[Tm.dp,cJ (λh=>by cases h.1)];rfl
 |succ _ e=>intro j a;rw[Tm.dp,cJ (λh=>by cases h.1)];simp only[cN,show dr 5=0 from rfl,ka,e j a]
 |m4 k _ _ _ c d f=>intro j a;rw[Tm.dp,cJ (λh=>by cases h.1)];simp only[cN,show dr 6=0 from rfl,ka,c j a,d j a,f j a]
 |nil=>intro j a;rw[Tm.dp,cJ (λh=>by cases h.1)];rfl
 |cons _ _ c d=>intro j a;rw[Tm.dp,cJ (λh=>by cases h.1)];simp only[cN,show dr 8=0 from rfl,ka,c j a,d j a]
 |fold k _ _ _ c d f=>intro j a;rw[Tm.dp,cJ (λh=>by cases h.1)];simp only[cN,show dr 9=0 from rfl,ka,c j a,d j a,f j a]
 |pair k _ _ c d=>intro j a;rw[Tm.dp,cJ (λh=>by cases h.1)];simp only[cN,show dr 10=0 from rfl,ka,c j a,d j a]
 |fst _ e=>intro j a;rw[Tm.dp,cJ (λh=>by cases h.1)];simp only[cN,show dr 11=0 from rfl,ka,e j a]
 |snd _ e=>intro j a;rw[Tm.dp,cJ (λh=>by cases h.1)];simp only[cN,show dr 12=0 from rfl,ka,e j a]
 |unit=>intro j a;rw[Tm.dp,cJ (λh=>by cases h.1)];rfl
def eA:Fm:=.mk 0 (.mk 0 []) [] []
def En(k:Option (cT×Int)):Option (cT×Int):=
 c0 k λa b=>
 if(dI b 0) then(
 some ((cT.mk (Fm.mk 0 (Ty.mk 0 []) [] []) 0),b))
 else(cH (ly a.cZ) λd=>
 if(dI d 0) then(
 some ((cT.mk (Fm.mk 0 (Ty.mk 0 []) [] []) 0),4))
 else(dO (λ(v30:Int)=>
 some ((cT.mk a.cZ v30),0)) λc=>
 c0 (ot a.cZ) λe f=>
 if e then(
 c a.fF)
 else(c 0)))
def Eb(r:Option (Fm×List Int×Int)):Option (xt×Int):=
 iG r λb g f=>
 if(dI f 0) then(
 some ((xt.mk (Fm.mk 0 (Ty.mk 0 []) [] []) []),f))
 else(cH (me b) λc=>
 if(dI c 0) then(
 some ((xt.mk (Fm.mk 0 (Ty.mk 0 []) [] []) []),4))
 else(dO (λ(d:List Int)=>
 some ((xt.mk b d),0)) λa=>
 c0 (ou b) λe h=>
 if e then(
 a g)
 else(a [])))
def uA{α:Type}{F:Int->α->Unit->Option (eK Unit Bool)}(w:α->Nat):∀(l:List α) (i:Nat),(∀j x,x∈l->F j x ()=if 0<w x then some (.ret true)else some (.next ()))->eg F l i ()=some (if 0<cN w l then .inr true else .inl ())
 |[],i,_=>rfl|x::l,i,h=>by
  have c:=uA w l (i+1) (λj y hy=>h j y (by simp[hy]));rw[dq,h i x aae]
  by_cases a:0<w x
  ·rw[cL a,cL (show 0<cN w (x::l) by simp only[cN];omega)];rfl
  ·rw[cJ a];show eg F l (i+1) ()=_;rw[c]
   by_cases b:0<cN w l
   ·rw[cL b,cL (show 0<cN w (x::l) by simp only[cN];omega)]
   ·rw[cJ b,cJ (show¬0<cN w (x::l) by simp only[cN];omega)]
def BC:∀(n:Nat) (t:Tm) (a:Int),t.afq<=n->t.afq<=1000000000->0<=a->a+t.afq<=10000000000->xr n t a=some (decide (0<t.afw a)):=by
 intro n
 induction n with
 |zero=>intro t a h;have:=t.da;omega
 |succ n f=>
  intro t a h d o e;cases t with
  |mk k i s l=>
   rw[Tm.cK] at h d e;have p:=Tm.dH l;have q:=eN k;rw[xr,Tm.dp];simp only[Tm.cX,Tm.dX,Tm.c8,cO,ku,ew,dS]
   by_cases c:k=1/\i=a
   ·rw[cL c,cL c]
    congr 1
    exact(qb Zb).symm
   ·rw[cJ c,cJ c,cQ Zb,cM,uA (Tm.afw (a+dr k)) l 0 (λj x g=>by
     have m:=cV Tm.afq g;rw[ji,cG,Tm.c8,dk Zb Zb,f x (a+dr k) Zb Zb Zb Zb,cG]
     by_cases b:0<x.afw (a+dr k)
     ·rw[cL b,cL (qb b)]
     ·rw[cJ b,cJ (by simpa using b)]),cG,sZ]
    by_cases b:0<cN (Tm.afw (a+dr k)) l
    ·rw[cL b,mA,qb b]
    ·rw[cJ b,cR,xY b]
def uT:∀(n:Nat) (t:Fm) (a:Int),t.afq<=n->t.afq<=1000000000->0<=a->a+t.afq<=10000000000->pP n t a=some (decide (0<t.afw a)):=by
 intro n
 induction n with
 |zero=>intro t a h;have:=t.da;omega
 |succ n i=>
  intro t a h c o d;cases t with
  |mk k s ts l=>
   rw[Fm.cK] at h c d;have p:=Fm.dH l;have m:=Tm.dH ts;have q:=j_ k;rw[pP,Fm.dp];simp only[Fm.cX,Fm.eF,cO]
   rw[cQ Zb,cM,uA (Tm.afw a) ts 0 (λj x e=>by
    have f:=cV Tm.afq e;rw[BC FU x a (by rw[dn];omega) Zb Zb Zb,cG]
    by_cases b:0<x.afw a
    ·rw[cL b,cL (qb b)]
    ·rw[cJ b,cJ (by simpa using b)]),cG]
   by_cases g:0<cN (Tm.afw a) ts
   ·rw[cL g,mA,qb Zb]
   ·rw[cJ g,cR,cQ Zb,cM,uA (Fm.afw (a+qB k)) l 0 (λj x e=>by
     have f:=cV Fm.afq e;rw[km,cG,Fm.c8,dk Zb Zb,i x (a+qB k) Zb Zb Zb Zb,cG]
     by_cases b:0<x.afw (a+qB k)
     ·rw[cL b,cL (qb b)]
     ·rw[cJ b,cJ (by simpa using b)]),cG]
    by_cases b:0<cN (Fm.afw (a+qB k)) l
    ·rw[cL b,mA,qb Zb]
    ·rw[cJ b,cR,xY Zb]
def Tm.uJ(s:Tm):∀(t:Tm) (n:Int),t.ok=true->t.afw n=0->Tm.ei n t s=t.up (n+1) (-1):=by
 intro t
 induction t using Tm.ind with
 |h k i ty l g=>
  intro n d e;have hi:=Tm.hE d;rw[Tm.dp] at e;rw[Tm.dQ,Tm.dV]
  by_cases a:k=1
  ·subst a;obtain⟨rfl,rfl⟩:=Tm.IZ d
   have b:i≠n:=λh=>by rw[cL ⟨rfl,h⟩] at e;omega
   rw[cL rfl];unfold Tm.jO;rw[cJ b]
   by_cases f:n<i
   ·rw[cL f,cL ⟨rfl,Zb⟩];rfl
   ·rw[cJ f,cJ (λh=>by omega)];rfl
  ·rw[cJ a,cJ (λh=>a h.1)]
   congr 1
   refine pg λx c=>?_;have:=cV (Tm.afw (n+dr k)) c;rw[g x c (n+dr k) (hi.2.2.2.1 x c) Zb,show n+dr k+1=n+1+dr k by omega]
def Fm.uJ(s:Tm):∀(t:Fm) (n:Int),t.ok=true->t.afw n=0->Fm.ei n t s=t.up (n+1) (-1):=by
 intro t
 induction t using Fm.ind with
 |h k ty ts l b=>
  intro n c d;obtain⟨_,e,f⟩:=Fm.kZ c;rw[Fm.dp] at d;rw[Fm.dQ,Fm.dV]
  congr 1
  ·refine pg λx a=>?_;have:=cV (Tm.afw n) a;exact Tm.uJ s x n (e x a) Zb
  ·refine pg λx a=>?_;have:=cV (Fm.afw (n+qB k)) a;rw[b x a (n+qB k) (f x a) Zb,show n+qB k+1=n+1+qB k by omega]
def Bl:∀(n:Nat) (t:Tm) (f:Int),t.afq<=n->t.afq<=1000000000->0<=f->f+t.afq<=10000000000->t.afu 1000000000000=true->ql n t f (-1)=some (t.up f (-1)):=by
 intro n
 induction n with
 |zero=>intro t f h;have:=t.da;omega
 |succ n o=>
  intro t f h a u b hi;cases t with
  |mk k i s l=>
   rw[Tm.cK] at h a b;rw[Tm.dj] at hi;simp only[ew,j8,gR] at hi;have w:=Tm.dH l;have y:=eN k;rw[ql];simp only[Tm.cX,Tm.dX,Tm.c8,Tm.ds,cO,cQ (l:=l) Zb,cM];rw[eW (Tm.up (f+dr k) (-1)) l 0 [] aaV]
   ·rw[Tm.dV];simp only[cG,cR,k9,zq,Tm.mk.injEq,Du,ry]
    by_cases c:k=1/\f<=i
    ·obtain⟨rfl,d⟩:=c;rw[dk Zb Zb];have p:dC 1 1=true:=rfl
     have q:sS i f=true:=by simp[d]
     simp[p,q,d]
    ·rw[cJ c]
     have e:fp (dC k 1) (sS i f) false=false:=by
      rw[ku,Ia];simp only[ne_eq,ew,dS,fB];exact c
     rw[e];rfl
   ·intro j x v g r;have:=cV Tm.afq g;rw[ji];simp only[cG,Tm.c8];rw[dk Zb Zb,o x (f+dr k) Zb Zb Zb Zb (hi.2 x g)];simp[di (l:=v) (m:=[x.up (f+dr k) (-1)]) (by simpa using r)]
def vh:∀(n:Nat) (t:Fm) (f:Int),t.afq<=n->t.afq<=1000000000->0<=f->f+t.afq<=10000000000->t.afu 1000000000000=true->fl n t f (-1)=some (t.up f (-1)):=by
 intro n
 induction n with
 |zero=>intro t f h;have:=t.da;omega
 |succ n e=>
  intro t f h b g c hi;cases t with
  |mk k s ts l=>
   rw[Fm.cK] at h b c;rw[Fm.dj] at hi;simp only[ew,gR] at hi;have o:=Fm.dH l;have i:=Tm.dH ts;have p:=j_ k;rw[fl];simp only[Fm.cX,Fm.eF,Fm.c8,Fm.ds,cO,cQ (l:=l) Zb,cQ (l:=ts) Zb,cM];rw[eW (Tm.up f (-1)) ts 0 [] aaV]
   ·simp only[cG,cR];rw[eW (Fm.up (f+qB k) (-1)) l 0 [] aaV]
    ·simp[Fm.dV]
    ·intro j x v a d;have:=cV Fm.afq a;rw[km];simp only[cG,Fm.c8];rw[dk Zb Zb,e x (f+qB k) Zb Zb Zb Zb (hi.2 x a)];simp[di (l:=v) (m:=[x.up (f+qB k) (-1)]) (by simpa using d)]
   ·intro j x v a d;have:=cV Tm.afq a;rw[Bl FU x f (by rw[dn];omega) Zb g Zb (hi.1 x a)];simp[di (l:=v) (m:=[x.up f (-1)]) (by simpa using d)]
def G6:yq Tm.z:=by
 show yq (Tm.mk 0 0 (Ty.mk 0 []) []);intro c b d;have a:FU=999999999+1:=dn;unfold qF oA;rw[a,fE,cJ (show¬(dC (Tm.mk 0 0 (Ty.mk 0 []) []).afo 1=true) by decide)];simp only[Tm.c8,Tm.ds,Tm.cX,Tm.dX,cO];rw[jS Zk,cG,cQ Zk,cM];rfl
def mN{f:Fm}(a:f.ok=true)(hn:f.afq<=50000000)(b:f.afu 1000000000000=true)(c:f.afw 0=0):k8 f 0 (Tm.mk 0 0 (Ty.mk 0 []) [])=some (f.up 1 (-1)):=by
 rw[show Tm.mk 0 0 (Ty.mk 0 []) []=Tm.z from rfl,n7 a hn b G6 Zb Zb,Fm.uJ _ f 0 a c];rfl
noncomputable def s6 (x:Tm) (e:Int):Tm×Int:=if e=0 then((x.norm 1000 0).1,(x.norm 1000 0).2.2)else(x,e)
def j2{α:Type}(f:α->Int->α×Int):List α->Int->List α×Int
 |[],e=>([],e)|x::l,e=>((f x e).1::(j2 f l (f x e).2).1,(j2 f l (f x e).2).2)
mutual
noncomputable def Fm.l0:Fm->Int->Fm×Int
 |.mk k s ts l,e=>(.mk k s (j2 s6 ts e).1 (Fm.D0 l (j2 s6 ts e).2).1,(Fm.D0 l (j2 s6 ts e).2).2)
noncomputable def Fm.D0:List Fm->Int->List Fm×Int
 |[],e=>([],e)|f::l,e=>((f.l0 e).1::(Fm.D0 l (f.l0 e).2).1,(Fm.D0 l (f.l0 e).2).2)
end
def Fm.FO:∀(l:List Fm) (e:Int),Fm.D0 l e=j2 Fm.l0 l e
 |[],e=>by rw[Fm.D0,j2]|f::l,e=>by rw[Fm.D0,j2,Fm.FO l]
def Fm.t_(k:Int)(s:Ty)(ts:List Tm)(l:List Fm)(e:Int):(Fm.mk k s ts l).l0 e=(.mk k s (j2 s6 ts e).1 (j2 Fm.l0 l (j2 s6 ts e).2).1,(j2 Fm.l0 l (j2 s6 ts e).2).2):=by rw[Fm.l0,Fm.FO]
def nM{α:Type}{f:α->Int->α×Int}:∀(l:List α) (e:Int),(∀x∈l,∀e,e≠0->(f x e).2=e)->e≠0->(j2 f l e).2=e
 |[],e,_,_=>rfl|x::l,e,h,he=>by
  have a:=h x aae e he;simp only[j2];rw[a];exact nM l e (λy hy=>h y (by simp[hy])) he
def rV{x:Tm}{e:Int}(he:e≠0):(s6 x e).2=e:=by unfold s6;rw[cJ he]
def Fm.yO(f:Fm):∀e:Int,e≠0->(f.l0 e).2=e:=by
 induction f using Fm.ind with
 |h k s ts l a=>
  intro e he;rw[Fm.t_];have b:=nM (f:=s6) ts e (λx _ e he=>rV he) he;simp only[];rw[b];exact nM l e a he
def wk{α ρ:Type}{E:α->Int->Option (α×Int)}{f:α->Int->α×Int}:∀(l:List α) (j:Nat) (v:List α) (e:Int),(∀x∈l,∀e,E x e=some (f x e))->v.length+l.length<=1000000000->eg (λ(k:Int) (c:α)=>(qH λ(v91:List α) (d:Int)=>
   c0 (E c d) λa b=>
   fU (eZ v91 [a])<|some ((.next ((fK v91 [a]),b)):eK ((List α)×Int) ρ))) l j (v,e)=some (.inl (v++(j2 f l e).1,(j2 f l e).2))
 |[],j,v,e,_,_=>by simp[j2]|x::l,j,v,e,h,m=>by
  simp only[hQ] at m;rw[dq];simp only[qH];rw[h x aae e];obtain⟨y,g,i⟩:∃y g,f x e=(y,g):=⟨_,_,rfl⟩;rw[i];rw[cI,di aaV,cM];simp only[cG,dt];rw[ec];have:=wk (ρ:=ρ) l (j+1) (v++[y]) g (λz n=>h z (by simp[n])) aaV;rw[this];simp only[j2,i];simp
structure Nm (x:Tm):Prop where
 err:x.err=0
 afu:x.afu 536870912=true
def Nm.both{x:Tm}(h:Nm x):jP x 1000=some (x.norm 1000 0)/\lF x 1000=some (x.norm 1000 0):=by
 obtain⟨b,hn⟩:=iC h.err;have hw:=x.eY b;have a:=pU (t:=x) Zb 1000;rw[cL h.err,cL ⟨Zb,Zb,h.afu⟩] at a;obtain⟨p,m,e,c,d,_⟩:=rF (t:=x) Zb 1000;have a:jP x 1000=some (x.norm 1000 0):=a;refine⟨a,?_⟩;rw[d,<-c,a]
def sV{x:Tm}(h:Nm x)(b e:Int):iV x b e=some (s6 x e):=by
 unfold iV s6
 by_cases he:e=0
 ·rw[cL he,cJ (by rw[cP];simpa using he),h.both.1];rfl
 ·rw[cJ he,cL (by rw[cP];exact he)]
inductive GF:Fm->Prop
 |mk {k s ts l}:(∀x∈ts,Nm x)->(∀f∈l,GF f)->GF (.mk k s ts l)
def GF.of(f:Fm):f.afq<=4096->f.ok=true->f.afu 536870912=true->GF f:=by
 induction f using Fm.ind with
 |h k s ts l d=>
  intro hn e b;obtain⟨_,g,i⟩:=Fm.kZ e;rw[Fm.cK] at hn;rw[Fm.dj,ew,gR,gR] at b;refine .mk (λx c=>⟨?_,b.1 x c⟩) (λf a=>?_)
  ·have:=cV Tm.afq c;unfold Tm.err;rw[cL (g x c),cJ Zb]
  ·have:=cV Fm.afq a;exact d f a Zb (i f a) (b.2 f a)
def Cl:∀(n:Nat) (f:Fm) (b e:Int),f.afq<=n->f.afq<=1000000->f.ok=true->GF f->dR n f b (λ(s:Int) (c:Tm) (d:Int)=>iV c d s) e=some (f.l0 e):=by
 intro n
 induction n with
 |zero=>intro f b e h;have:=f.da;omega
 |succ n m=>
  intro f b e hn o p hm;cases f with
  |mk k s ts l=>
   cases hm with
   |mk q r=>
    rw[Fm.cK] at hn o;have u:=er Tm.afq ts λt _=>t.da;have v:=er Fm.afq l λt _=>t.da;obtain⟨w,z,g⟩:=Fm.kZ p;rw[dR,Fm.t_];simp only[Fm.ds,Fm.cX,Fm.c8,Fm.eF,cO];rw[jS Zb,cG,cQ Zb,cM];rw[wk (E:=λy s=>iV y b s) (f:=s6) ts 0 [] e (λx a e=>sV (q x a) b e) aaV,cG];simp only[cR,qH,k9];rw[jv,cG]
    have loop:=λi=>wk (ρ:=Fm×Int) (E:=λy s=>dR n y i (λ(s:Int) (c:Tm) (d:Int)=>iV c d s) s) (f:=Fm.l0) l 0 [] (j2 s6 ts e).2 (λx a e=>by
     have:=cV Fm.afq a
     exact m x i e Zb Zb (g x a) (r x a)) aaV
    by_cases j:gv k=true
    ·rw[cL j,cQ Zb,cM,loop,cG];simp
    ·rw[cJ j,cQ Zb,cM,loop,cG];simp
def xj:∀(n:Nat) (f:Fm),f.afq<=n->f.afq<=1000000->GF f->mf n f=some (if(f.l0 0).2=0 then((f.l0 0).1,0)else(eA,(f.l0 0).2)):=by
 intro n
 induction n with
 |zero=>intro f h;have:=f.da;omega
 |succ n H=>
  intro f hn I hm;cases f with
  |mk k s ts l=>
   cases hm with
   |mk J K=>
    rw[Fm.cK] at hn I;have L:=er Tm.afq ts λt _=>t.da;have M:=er Fm.afq l λt _=>t.da;rw[mf,Fm.t_];simp only[Fm.ds,Fm.cX,Fm.c8,Fm.eF,cO];rw[cQ Zb,cM]
    have p:∀(us:List Tm) (j:Nat) (v:List Tm),(∀t∈us,Nm t)->v.length+us.length<=1000000000->eg (λ(N:Int) (B:Tm)=>(λ(w:List Tm)=>
       iG (lF B 1000) λc E d=>
       if(dI d 0) then(
       some (.ret ((Fm.mk 0 (Ty.mk 0 []) [] []),d)))
       else(fU (eZ w [c])<|some ((.next (fK w [c])):eK (List Tm) (Fm×Int))))) us j v=some (if(j2 s6 us 0).2=0 then .inl (v++(j2 s6 us 0).1)else .inr (eA,(j2 s6 us 0).2)):=by
     intro us
     induction us with
     |nil=>intro j v _ _;simp[j2]|cons t us q=>
      intro j v hm C;simp only[hQ] at C;rw[dq,(hm t aae).both.2]
      have D:s6 t 0=((t.norm 1000 0).1,(t.norm 1000 0).2.2):=by unfold s6;rw[cL rfl]
      obtain⟨y,m,a,z⟩:∃y m a,t.norm 1000 0=(y,m,a):=⟨_,_,_,rfl⟩;rw[z] at D|-;rw[iY]
      by_cases he:a=0
      ·subst he;rw[cJ Zk,di aaV,cM];simp only[cG,dt];rw[ec,q (j+1) (v++[y]) (λu hu=>hm u (by simp[hu])) aaV];simp only[j2,D];simp
      ·rw[cL (by rw[cP];exact he)];simp only[j2,D];rw[nM (f:=s6) us a (λx _ e he=>rV he) he,cJ he];rfl
    have r:∀(us:List Fm) (j:Nat) (v:List Fm),(∀t∈us,GF t/\t.afq<=n/\t.afq<=1000000)->v.length+us.length<=1000000000->eg (λ(F:Int) (A:Fm)=>(λ(g:List Fm)=>
       c0 (mf n A) λi o=>
       if(dI o 0) then(
       some (.ret ((Fm.mk 0 (Ty.mk 0 []) [] []),o)))
       else(fU (eZ g [i])<|some ((.next (fK g [i])):eK (List Fm) (Fm×Int))))) us j v=some (if(j2 Fm.l0 us 0).2=0 then .inl (v++(j2 Fm.l0 us 0).1)else .inr (eA,(j2 Fm.l0 us 0).2)):=by
     intro us
     induction us with
     |nil=>intro j v _ _;simp[j2]|cons t us q=>
      intro j v hm C;simp only[hQ] at C;obtain⟨a1,a2,a3⟩:=hm t aae;rw[dq,H t a2 a3 a1];obtain⟨y,a,z⟩:∃y a,t.l0 0=(y,a):=⟨_,_,rfl⟩;rw[z]
      by_cases he:a=0
      ·subst he;simp only[if_true];rw[cI,cJ Zk,di aaV,cM];simp only[cG,dt];rw[ec,q (j+1) (v++[y]) (λu hu=>hm u (by simp[hu])) aaV];simp only[j2,z];simp
      ·simp only[cJ he];rw[cI,cL (by rw[cP];exact he)];simp only[j2,z];rw[nM (f:=Fm.l0) us a (λx _ e he=>Fm.yO x e he) he,cJ he];rfl
    rw[p ts 0 [] J aaV,cG]
    by_cases he:(j2 s6 ts 0).2=0
    ·rw[cL he,cR,cQ Zb,cM,r l 0 [] (λt G=>by
      have:=cV Fm.afq G
      exact⟨K t G,Zb,Zb⟩) aaV,cG,he]
     by_cases b:(j2 Fm.l0 l 0).2=0
     ·rw[cL b,cL b,cR,k9,k9]
     ·rw[cJ b,cJ b,mA]
    ·rw[cJ he,mA,nM (f:=Fm.l0) l _ (λx _ e he=>Fm.yO x e he) he,cJ he]
def Ty.Tq:∀(n:Nat) (s:Ty),s.afq<=n->s.err=0->∃a,dd [] a s:=by
 intro n
 induction n with
 |zero=>intro s h;have:=s.da;omega
 |succ n c=>
  intro s hn he;rcases Ty.lb he with rfl|rfl|rfl|⟨a,b,rfl,e,d⟩|⟨a,b,rfl,e,d⟩
  ·exact⟨_,.zero⟩
  ·exact⟨_,.nil⟩
  ·exact⟨_,.unit⟩
  ·rw[Ty.nS] at hn;obtain⟨x,f⟩:=c a Zb e;obtain⟨y,hy⟩:=c b Zb d;exact⟨_,.pair he f hy⟩
  ·rw[Ty.fR] at hn;obtain⟨y,hy⟩:=c b Zb d;exact⟨_,.lam he (by have:=hy.front [a];simpa using this)⟩
def eX.down{g:List Ty}{s:Ty}{f:Fm}(h:eX (g++[s]) f)(hs:s.err=0)(c:f.afw 0=0):eX g (f.up 1 (-1)):=by
 obtain⟨a,d⟩:=Ty.Tq _ s (jM _) hs
 have b:dd g a s:=by simpa using d.front g
 have:=h.put b
 rwa [Fm.uJ a f 0 h.ok c] at this
def dd.nm{g:List Ty}{x:Tm}{t:Ty}(h:dd g x t)(hg:g.length<=1000000)(a:x.afq<=4096):Nm x:=by
 refine⟨?_,h.afu _ Zb⟩;unfold Tm.err;rw[cL h.ok,cJ Zb]
def Ju{g:List Ty}{x:Tm}{t:Ty}(h:dd g x t)(hg:g.length<=1000000)(b:x.afq<=4096){e:Int}(he:(s6 x e).2=0):e=0/\dd g (s6 x e).1 t/\(s6 x e).1.afq<=4096:=by
 by_cases c:e=0
 ·subst c;unfold s6 at he|-;simp only[if_true] at he|-;obtain⟨a,n,f,d⟩:∃a n f,x.norm 1000 0=(a,n,f):=⟨_,_,_,rfl⟩;rw[d] at he|-;simp only[] at he|-;subst he;exact⟨trivial,dd.norm _ _ _ _ _ h d,(xJ 1000 536870912 0 x a n Zb (Sm.start (h.nm hg b).err (h.nm hg b).afu) b d).2⟩
 ·rw[rV c] at he;exact absurd he c
def Ff(a b:Tm)(e:Int):(Fm.mk 1 .z [a,b] []).l0 e=(.mk 1 .z [(s6 a e).1,(s6 b (s6 a e).2).1] [],(s6 b (s6 a e).2).2):=by rw[Fm.t_];rfl
def Fk(k:Int)(a b:Fm)(e:Int):(Fm.mk k .z [] [a,b]).l0 e=(.mk k .z [] [(a.l0 e).1,(b.l0 (a.l0 e).2).1],(b.l0 (a.l0 e).2).2):=by rw[Fm.t_];rfl
def Nt(k:Int)(s:Ty)(a:Fm)(e:Int):(Fm.mk k s [] [a]).l0 e=(.mk k s [] [(a.l0 e).1],(a.l0 e).2):=by rw[Fm.t_];rfl
def D4{g:List Ty}{f:Fm}(h:eX g f):∀(e:Int),g.length+f.afq<=1000000->f.afq<=4096->(f.l0 e).2=0->e=0/\eX g (f.l0 e).1/\(f.l0 e).1.afq<=3000*f.afq:=by
 induction h with
 |@eq g a b c n=>
  intro e hg hn he;rw[Ff] at he|-;rw[Fm.cK] at hn hg|-;simp only[cN] at hn hg|-;obtain⟨d,i,o⟩:=Ju n Zb Zb he;obtain⟨a1,a2,a3⟩:=Ju c Zb Zb d;refine⟨a1,.eq a2 i,?_⟩;rw[Fm.cK];simp only[cN];have:=a.da;have:=b.da;omega
 |@two g k a b j c n l m=>
  intro e hg hn he;rw[Fk] at he|-;rw[Fm.cK] at hn hg|-;simp only[cN] at hn hg|-;obtain⟨d,i,o⟩:=m _ Zb Zb he;obtain⟨a1,a2,a3⟩:=l _ Zb Zb d;refine⟨a1,.two j a2 i,?_⟩;rw[Fm.cK];simp only[cN];omega
 |@q g k s a j hs c p=>
  intro e hg hn he;rw[Nt] at he|-;rw[Fm.cK] at hn hg|-;simp only[cN] at hn hg|-;obtain⟨a1,a2,a3⟩:=p _ aaV Zb he;refine⟨a1,.q j hs a2,?_⟩;rw[Fm.cK];simp only[cN];omega
noncomputable def ox (f:Fm):Fm×Int:=if f.afw 0=0 then(f.up 1 (-1),0)else if(f.l0 0).2≠0 then(eA,(f.l0 0).2)else if(f.l0 0).1.afw 0≠0 then(eA,6)else((f.l0 0).1.up 1 (-1),0)
def yR{g:List Ty}{s:Ty}{f:Fm}(h:Hg (g++[s]) f)(hg:g.length<=1000)(hs:s.err=0)(a:(ox f).2=0):eX g (ox f).1/\(ox f).1.afq<=3000*4096:=by
 have hn:=h.afq;unfold ox at a|-
 split
 ·rename_i c;refine⟨h.ty.down hs c,?_⟩;show(f.up 1 (-1)).afq<=_;rw[Fm.jo];omega
 ·rename_i c;rw[cJ c] at a
  split
  ·rename_i b;rw[cL b] at a;exact absurd a b
  ·rename_i b;rw[cJ b] at a
   split
   ·rename_i d;rw[cL d] at a;cases a
   ·rename_i d;obtain⟨_,a2,a3⟩:=D4 h.ty 0 aaV hn (nN.1 b);refine⟨a2.down hs Zb,?_⟩;show((f.l0 0).1.up 1 (-1)).afq<=_;rw[Fm.jo];omega
def oI{g:List Ty}{s:Ty}{f:Fm}(h:Hg (g++[s]) f)(hg:g.length<=1000):la f=some (ox f):=by
 have hn:=h.afq;have j:f.afu 1000000000000=true:=h.ty.afu _ aaV;unfold la ox;rw[kl h.ok Zb j Zb Zb,cG]
 by_cases c:f.afw 0=0
 ·rw[cL c,cL (by rw[dS];omega),mN h.ok Zb j c];rfl
 ·rw[cJ c,cJ (by rw[dS];omega),Cl FU f 0 0 (by rw[dn];omega) Zb h.ok (GF.of f hn h.ok (h.ty.afu _ aaV))];obtain⟨f',d,e⟩:∃f' d,f.l0 0=(f',d):=⟨_,_,rfl⟩;rw[e,cI];simp only[]
  by_cases he:d=0
  ·subst he;rw[cJ Zk,cJ Zk];have a:=D4 h.ty 0 aaV hn (by rw[e]);rw[e] at a;obtain⟨_,a2,a3⟩:=a;have a2:eX (g++[s]) f':=a2;have a3:f'.afq<=3000*f.afq:=a3;have b:f'.afu 1000000000000=true:=a2.afu _ aaV;rw[kl a2.ok Zb b Zb Zb,cG]
   by_cases i:f'.afw 0=0
   ·rw[cJ (by rw[eb];omega),cJ (by simpa using i),mN a2.ok Zb b i];rfl
   ·rw[cL (by rw[eb];omega),cL i];rfl
  ·rw[cL (by rw[cP];exact he),cL he];rfl
abbrev PR:=(Fm×Nat)⊕Int
def pbind(r:PR)(k:Fm->Nat->PR):PR:=match r with|.inl p=>k p.1 p.2|.inr e=>.inr e
def mX(c:Prop)[Decidable c](e:Int)(r:PR):PR:=if c then .inr e else r
theorem ft{c:Prop}[Decidable c]{e:Int}{r:PR}(h:c):mX c e r=.inr e:=cL h
theorem eP{c:Prop}[Decidable c]{e:Int}{r:PR}(h:¬c):mX c e r=r:=cJ h
def fW(e:Int)(r:PR):PR:=if e=0 then r else .inr e
@[simp] theorem dA(f:Fm)(m:Nat)(k:Fm->Nat->PR):pbind (.inl (f,m)) k=k f m:=rfl
theorem ej{e:Int}{r:PR}(h:e=0):fW e r=r:=cL h
theorem fy{e:Int}{r:PR}(h:e≠0):fW e r=.inr e:=cJ h
noncomputable def lT (r:PR):PR:=pbind r λf m=>if f.err=0 then .inl (f,if f.has then m else 0)else .inr 4
def vt(r:PR)(k:Int):PR:=pbind r λf m=>if f.afo=k then .inl (f,m)else .inr 10
noncomputable def p9 (a b:Fm):Int:=(gZ a b).getD 0
noncomputable def tK (r:PR) (F:Fm) (t:Tm):PR:=pbind r λf m=>fW (gH F t).2 (fW (p9 (gH F t).1 f) (.inl (f,m)))
def AH(t:Tm):Nat->Nat
 |0=>0|j+1=>if 0<t.afw j then AH t j|||2^j else AH t j
def jZ(t:Tm):Nat:=AH t 32
def AS(t:Tm):∀(n i:Nat),(AH t n).testBit i=true↔i<n/\0<t.afw i
 |0,i=>by simp[AH]|n+1,i=>by
  have c:=AS t n i;rw[AH]
  by_cases h:0<t.afw n
  ·rw[cL h,IW,mu,c,N6];simp only[j8];constructor
   ·rintro(⟨a,b⟩|rfl)
    ·exact⟨Zb,b⟩
    ·exact⟨Zb,h⟩
   ·rintro⟨a,b⟩
    by_cases hi:n=i
    ·exact .inr hi
    ·exact .inl ⟨Zb,b⟩
  ·rw[cJ h,c];constructor
   ·rintro⟨a,b⟩;exact⟨Zb,b⟩
   ·rintro⟨a,b⟩;refine⟨?_,b⟩;rcases zj i n with hh|hh
    ·exact hh
    ·obtain rfl:i=n:=Zb
     exact absurd b h
def tz(t:Tm)(i:Nat):(jZ t).testBit i=true↔i<32/\0<t.afw i:=AS t 32 i
def v0:Tm:=.mk 1 0 (.mk 0 []) []
def v1:Tm:=.mk 1 1 (.mk 0 []) []
noncomputable def ke (L:List Fm) (k i:Int) (s:Ty) (ts:List Tm) (fs:List Fm) (sub:Nat->List Ty->List Fm->PR) (g:List Ty) (hs:List Fm):PR:=
 let t:=ts.getD 0 Tm.z
 let F:=fs.getD 0 eA
 if k=1 then mX ((hs.length:Int)<=i) 8 (.inl (hs.getD (hs.length-1-i.toNat) eA,0))
 else if k=2 then mX ((L.length:Int)<=i) 9 (.inl (L.getD i.toNat eA,0))
 else if k=3 then pbind (sub 0 g hs) λa m=>pbind (sub 1 g hs) λb n=>.inl (.mk 2 .z [] [a,b],m|||n)
 else if k=4 then pbind (vt (sub 0 g hs) 2) λa m=>.inl (a.afp.getD 0 eA,m)
 else if k=5 then pbind (vt (sub 0 g hs) 2) λa m=>.inl (a.afp.getD 1 eA,m)
 else if k=6 then fW (F.nI g) (mX (16<hs.length+1) 3 (pbind (sub 0 g (hs++[F])) λb m=>.inl (.mk 3 .z [] [F,b],m)))
 else if k=7 then pbind (vt (sub 0 g hs) 3) λa m=>pbind (sub 1 g hs) λb n=>fW (p9 (a.afp.getD 0 eA) b) (.inl (a.afp.getD 1 eA,m|||n))
 else if k=8 then mX (16<g.length+1) 3 (pbind (sub 0 (g++[s]) (hs.map (Fm.up 0 1))) λb m=>.inl (.mk 4 s [] [b],m/2))
 else if k=12 then mX (16<g.length+1) 3 (pbind (sub 0 (g++[s]) (hs.map (Fm.up 0 1))) λb m=>mX (m.testBit 0=true) 12 (.inl (.mk 6 s [] [b],m/2)))
 else if k=9 then fW (t.ty g).2 (pbind (vt (sub 0 g hs) 4) λa m=>mX ((t.ty g).1.fX a.cW=false) 7 (fW (gH (a.afp.getD 0 eA) t).2 (.inl ((gH (a.afp.getD 0 eA) t).1,m|||jZ t))))
 else if k=13 then fW (t.ty g).2 (pbind (vt (sub 0 g hs) 6) λa m=>mX ((t.ty g).1.fX a.cW=false) 7 (fW (gH (a.afp.getD 0 eA) t).2 (.inl ((gH (a.afp.getD 0 eA) t).1,m))))
 else if k=10 then fW (F.nI g) (mX (F.afo≠5) 10 (fW (t.ty g).2 (mX ((t.ty g).1.fX F.cW=false) 7 (pbind (tK (sub 0 g hs) (F.afp.getD 0 eA) t) λ_ m=>.inl (F,m|||jZ t)))))
 else if k=14 then fW (F.nI g) (mX (F.afo≠7) 10 (fW (t.ty g).2 (mX ((t.ty g).1.fX F.cW=false) 7 (pbind (tK (sub 0 g hs) (F.afp.getD 0 eA) t) λ_ m=>.inl (F,m)))))
 else if k=11 then pbind (vt (sub 0 g hs) 5) λa m=>mX (16<g.length+1\/16<hs.length+1) 3 (pbind (sub 1 (g++[a.cW]) (hs.map (Fm.up 0 1)++[a.afp.getD 0 eA])) λb n=>fW (ox b).2 (.inl ((ox b).1,m|||n/2)))
 else if k=15 then pbind (vt (sub 0 g hs) 7) λa m=>mX (16<g.length+1\/16<hs.length+1) 3 (pbind (sub 1 (g++[a.cW]) (hs.map (Fm.up 0 1)++[a.afp.getD 0 eA])) λb n=>fW (ox b).2 (mX (n.testBit 0=true) 12 (.inl ((ox b).1,m|||n/2))))
 else if k=16 then fW (F.nI (g++[.nat])) (fW (jb t g 1) (pbind (tK (sub 0 g hs) F k_) λ_ m=>mX (16<g.length+1\/16<hs.length+1) 3 (
  pbind (tK (sub 1 (g++[.nat]) (hs.map (Fm.up 0 1)++[F])) (F.up 1 1) (fA v0)) λ_ n=>fW (gH F t).2 (.inl ((gH F t).1,(jZ t|||m)|||n/2)))))
 else if k=17 then fW (F.nI (g++[.hS])) (fW (jb t g 2) (pbind (tK (sub 0 g hs) F (.mk 7 0 .z [])) λ_ m=>mX (16<g.length+2\/16<hs.length+1) 3 (
  pbind (tK (sub 1 (g++[.nat]++[.hS]) (hs.map (Fm.up 0 2)++[F.up 1 1])) (F.up 1 2) (.mk 8 0 .z [v1,v0])) λ_ n=>fW (gH F t).2 (.inl ((gH F t).1,(jZ t|||m)|||n/4)))))
 else if k=18 then fW (jb t g 1) (.inl (.mk 1 .z [t,t] [],0))
 else if k=19 then fW (F.nI (g++[.nat])) (pbind (vt (sub 0 g hs) 1) λa _=>pbind (tK (sub 1 g hs) F (a.dy.getD 0 Tm.z)) λ_ n=>fW (gH F (a.dy.getD 1 Tm.z)).2 (.inl ((gH F (a.dy.getD 1 Tm.z)).1,n)))
 else pbind (vt (sub 0 g hs) 4) λa m=>mX ((a.afp.getD 0 eA).afo≠5) 10 (mX ((Ty.fn a.cW (a.afp.getD 0 eA).cW).err≠0) 4 (mX ((gH (((a.afp.getD 0 eA).afp.getD 0 eA).up 2 1) (eS v1 v0)).2≠0) 4 (.inl (.mk 5 (Ty.fn a.cW (a.afp.getD 0 eA).cW) [] [.mk 4 a.cW [] [(gH (((a.afp.getD 0 eA).afp.getD 0 eA).up 2 1) (eS v1 v0)).1]],m))))
mutual
noncomputable def Pf.inf (L:List Fm):Pf->List Ty->List Fm->PR
 |.mk k i s ts fs l,g,hs=>lT (ke L k i s ts fs (Pf.nt L l) g hs)
noncomputable def Pf.nt (L:List Fm):List Pf->Nat->List Ty->List Fm->PR
 |[],_,_,_=>.inr 2|p::_,0,g,hs=>p.inf L g hs|_::l,n+1,g,hs=>Pf.nt L l n g hs
end
def Vk(g:List Ty)(s:PR)(k:Option (cT×Int))(r:Option (xt×Int)):Prop:=
 (∃e,e≠0/\s=.inr e/\k=some (⟨eA,0⟩,e)/\r=some (⟨eA,[]⟩,e))\/∃(f:Fm) (m:Nat) (l:List Int),s=.inl (f,m)/\k=some (⟨f,(m:Int)⟩,0)/\r=some (⟨f,l⟩,0)/\Us l m/\Hg g f
def hO(g:List Ty)(s:PR)(k:Option (cT×Int))(r:Option (Fm×List Int×Int)):Prop:=
 (∃e x f l,e≠0/\s=.inr e/\k=some (x,e)/\r=some (f,l,e))\/∃(f:Fm) (m:Nat) (l:List Int),s=.inl (f,m)/\k=some (⟨f,(m:Int)⟩,0)/\r=some (f,l,0)/\Us l m/\eX g f/\f.afq<=15000000
theorem hO.no{g:List Ty}{s:PR}{k:Option (cT×Int)}{r:Option (Fm×List Int×Int)}{e:Int}{x:cT}{f:Fm}{l:List Int}(he:e≠0)(a:s=.inr e)(b:k=some (x,e))(c:r=some (f,l,e)):hO g s k r:=.inl ⟨e,x,f,l,he,a,b,c⟩
def hO.yes{g:List Ty}{s:PR}{k:Option (cT×Int)}{r:Option (Fm×List Int×Int)}{f:Fm}{m:Nat}{l:List Int}(a:s=.inl (f,m))(b:k=some (⟨f,(m:Int)⟩,0))(c:r=some (f,l,0))(d:Us l m)(e:eX g f)(h:f.afq<=15000000):hO g s k r:=.inr ⟨f,m,l,a,b,c,d,e,h⟩
def hO.infer{g:List Ty}(hg:g.length<=16){s:PR}{k:Option (cT×Int)}{r:Option (Fm×List Int×Int)}(h:hO g s k r):Vk g (lT s) (En k) (Eb r):=by
 rcases h with⟨e,x,f,l,he,rfl,rfl,rfl⟩|⟨f,m,l,rfl,rfl,rfl,hu,b,hn⟩
 ·refine .inl ⟨e,he,rfl,?_,?_⟩
  ·unfold En;rw[cI,cL (by rw[cP];exact he)];rfl
  ·unfold Eb;rw[iY,cL (by rw[cP];exact he)];rfl
 ·have c:=b.ok;have hw:=f.eY c;have i:=b.afu 1000000000000 Zb;have d:lT (.inl (f,m))=if f.err=0 then .inl (f,if f.has then m else 0)else .inr 4:=rfl;unfold En Eb;rw[cI,iY];simp only[cO];rw[cJ Zk,cJ Zk,gJ Zb,iv Zb,cG,cG]
  by_cases a:f.err=0
  ·rw[cJ (by rw[cP];simp[a]),cJ (by rw[cP];simp[a]),vN Zb i,vC _ Zb,d,cL a];rw[cJ (show¬(f.err≠0) by simpa using a),cI,cI];cases f.has with
   |true=>exact .inr ⟨f,m,l,rfl,rfl,rfl,hu,⟨a,b⟩⟩|false=>exact .inr ⟨f,0,[],rfl,rfl,rfl,.nil,⟨a,b⟩⟩
  ·rw[cL (by rw[cP];exact a),cL (by rw[cP];exact a),d,cJ a];exact .inl ⟨4,Zk,rfl,rfl,rfl⟩
def fI(L:List Fm)(P:Pf)(N:Nat):Prop:=∀n n',N<=n->N<=n'->∀p c,PG L p c->Vk c.afs (P.inf L c.afs c.afv) (dP n L P p) (dg n' c P)
def tE{f:Fm}{m:Nat}{k:Int}(h:f.afo=k):vt (.inl (f,m)) k=.inl (f,m):=by grind[vt,dA]
def iN{g:List Ty}{s:PR}{n:Nat}{L:List Fm}{P:Pf}{p:cS}{r:Option (xt×Int)}(h:Vk g s (dP n L P p) r)(k:Int):(∃e,e≠0/\vt s k=.inr e/\dG (n+1) L P p k=some (⟨eA,0⟩,e)/\((r=some (⟨eA,[]⟩,e))\/∃f l m,r=some (⟨f,l⟩,0)/\f.afo≠k/\e=10/\Us l m))\/∃(f:Fm) (m:Nat) (l:List Int),vt s k=.inl (f,m)/\dG (n+1) L P p k=some (⟨f,(m:Int)⟩,0)/\r=some (⟨f,l⟩,0)/\Us l m/\Hg g f/\f.afo=k:=by
 rcases h with⟨e,he,a,d,b⟩|⟨f,m,l,a,d,b,hu,i⟩
 ·refine .inl ⟨e,he,by rw[a];rfl,?_,.inl b⟩
  grind[dG,cI,ku,dS]
 ·by_cases c:f.afo=k
  ·grind[vt,dA,dG,cI,ku,cP]
  ·refine .inl ⟨10,Zk,by rw[a];unfold vt;rw[dA,cJ c],?_,.inr ⟨f,l,m,b,c,rfl,hu⟩⟩;rw[dG,d,cI,cL (by rw[ku,ew,cP,dS];exact⟨rfl,c⟩)];rfl
def BE{a b:Fm}(d:a.wt<=1000000000)(e:b.wt<=1000000000):gZ a b=some (p9 a b)/\mc a b=some (p9 a b):=by
 obtain⟨c,f,g⟩:=tV d e
 have:p9 a b=c:=by unfold p9;rw[f];rfl
 grind
structure lB (g:List Ty) (F:Fm) (t:Tm):Prop where
 fe:F.err=0
 te:t.err=0
 ty:∃s,eX (g++[s]) F/\dd g t s
theorem lB.put{g:List Ty}{F:Fm}{t:Tm}(h:lB g F t):eX g (Fm.ei 0 F t):=by
 obtain⟨s,a,b⟩:=h.ty;exact a.put b
def lB.both{g:List Ty}{F:Fm}{t:Tm}(h:lB g F t)(hg:g.length<=100):gP F t=some (gH F t)/\iF F t=some (gH F t):=by
 obtain⟨s,c,d⟩:=h.ty;obtain⟨_,a2⟩:=Fm.ey h.fe;obtain⟨_,e⟩:=Tm.ey h.te;have a:F.afu 536870912=true:=c.afu _ aaV;have b:t.afu 536870912=true:=d.afu _ Zb;refine⟨zA h.fe h.te (Fm.ir F Zb a) (Tm.ir t Zb b),?_⟩;unfold iF;rw[wm h.fe h.te a b h.put.ok];rfl
theorem gO(F:Fm)(t:Tm):gH F t=(eA,4)\/(Fm.ei 0 F t).afq<=4096/\gH F t=(Fm.ei 0 F t,0):=by
 unfold gH
 split
 ·exact .inl rfl
 ·grind
def mj{g:List Ty}(hg:g.length<=16){s:PR}{n n':Nat}{L:List Fm}{P:Pf}{p:cS}{c:cY}(h:Vk g s (dP n L P p) (dg n' c P)){F:Fm}{t:Tm}(q:lB g F t):(∃e x l m,e≠0/\tK s F t=.inr e/\dJ (n+1) L P p F t=some (x,e)/\dY (n'+1) c P F t=some (l,e)/\Us l m)\/∃(f:Fm) (m:Nat) (l:List Int),tK s F t=.inl (f,m)/\dJ (n+1) L P p F t=some (⟨f,(m:Int)⟩,0)/\dY (n'+1) c P F t=some (l,0)/\Us l m:=by
 obtain⟨i,k2⟩:=q.both Zb;rcases h with⟨e,he,j,k,o⟩|⟨f,m,l,j,k,o,hu,r⟩
 ·refine .inl ⟨e,⟨eA,0⟩,[],0,he,by rw[j];rfl,?_,?_,.nil⟩
  ·rw[dJ,k,cI,cL (by rw[cP];exact he)];rfl
  ·rw[dY,o,cI,cL (by rw[cP];exact he)]
 ·rcases gO F t with d|⟨hn,d⟩
  ·rw[d] at i k2;refine .inl ⟨4,⟨eA,0⟩,[],0,Zk,?_,?_,?_,.nil⟩
   ·rw[j];unfold tK;rw[dA,d];rfl
   ·rw[dJ,k,cI,cJ Zk,i,cI,cL Zk];rfl
   ·rw[dY,o,cI,cJ Zk,k2,cI,cL Zk]
  ·rw[d] at i k2;have B:=Fm.eY _ q.put.ok;have C:=Fm.eY _ r.ok;have u:=r.afq;obtain⟨v,w⟩:=BE (a:=Fm.ei 0 F t) (b:=f) Zb Zb
   have y:tK s F t=fW (p9 (Fm.ei 0 F t) f) (.inl (f,m)):=by rw[j];unfold tK;rw[dA,d,ej rfl]
   have z:dJ (n+1) L P p F t=some (⟨f,(m:Int)⟩,p9 (Fm.ei 0 F t) f):=by
    rw[dJ,k,cI,cJ Zk,i,cI,cJ Zk,v,cG]
   have A:dY (n'+1) c P F t=some (l,p9 (Fm.ei 0 F t) f):=by
    rw[dY,o,cI,cJ Zk,k2,cI,cJ Zk,w,cG]
   rw[y,z,A]
   by_cases hm:p9 (Fm.ei 0 F t) f=0
   ·rw[ej hm,hm];exact .inr ⟨f,m,l,rfl,rfl,rfl,hu⟩
   ·rw[fy hm];exact .inl ⟨_,_,_,m,hm,rfl,rfl,rfl,hu⟩
theorem vy{g:List Ty}(h:fh g)(hg:g.length<=16):pe g=0:=by
 unfold pe;rw[cJ Zb]
 induction g with
 |nil=>rfl|cons s g a=>
  have b:=h s aae;simp only[jc,dB];rw[cL b];exact a (λx c=>h x (by simp[c])) (by simp at hg;omega)
def mv{g:List Ty}(a:fh g)(hg:g.length<=17){F:Fm}(hF:F.err=0):dE FU (g.map mi) F=some (F.nI g)/\jY g F=some (F.nI g)/\(g.length<=16->jg g F=some (F.nI g)):=by
 obtain⟨a1,a2⟩:=Fm.ey hF;have hw:=F.eY a1;refine⟨oT F a1 FU (by rw[dn];omega) g a Zb a2,?_,λb=>?_⟩
 ·unfold jY;rw[iv Zb,hF,cG,cJ Zk,rD F a1 FU (by rw[dn];omega) g a Zb a2];rfl
 ·rw[oe Zb Zb (λt c=>by have:=dx (a t c);omega)];unfold yb
  grind[vy]
def iP{g:List Ty}(a:fh g)(hg:g.length<=16){t:Tm}(b:t.err=0):dz FU (g.map mi) t=some (zu (t.ty g))/\jz g t=some (t.ty g):=by
 obtain⟨a1,a2⟩:=Tm.ey b;refine⟨pZ a1 a Zb,?_⟩;unfold jz;rw[mo g Zb (λt b=>by have:=dx (a t b);omega),vy a hg,rA a1 a2 a Zb];rfl
def has_both{g:List Ty}(b:fh g)(hg:g.length<=16){c:cY}(a:c.afs=g){t:Tm}(d:t.err=0)(k:Int):gX (g.map mi) t k=some (jb t g k)/\gB c t k=some (jb t g k):=by
 obtain⟨a1,a2⟩:=Tm.ey d;refine⟨tw k a1 b Zb,?_⟩;unfold gB jb;rw[a,(iP b hg d).2]
 grind[cI,cP]
def pY{g:List Ty}(hg:g.length<=16){t:Tm}{s:Ty}(h:dd g t s)(b:t.err=0):∃l,iO t=some (jZ t:Int)/\jl t=some l/\Us l (jZ t):=by
 obtain⟨a1,a2⟩:=Tm.ey b;have a:∀j:Int,32<=j->t.afw j=0:=λj e=>h.Ai j Zb;obtain⟨l,m,f,k,c,d⟩:=Mc b (h.afu _ Zb) a
 have:m=jZ t:=by
  refine VM λi=>?_;rw[vR,<-c.mem i,d,tz]
  grind
 grind
def nz:¬dI 0 0=true:=Zk
def kW(n:Nat)(a0:List Fm)(a1:Pf)(a2:cS):Option (cT×Int):=
 if dC a1.afo 1 then q9 a0 a1 a2 else(if dC a1.afo 2 then pD a0 a1 a2 else(if dC a1.afo 3 then j5 n a0 a1 a2 else(if dC a1.afo 4 then gk n a0 a1 a2 else(if dC a1.afo 5 then gk n a0 a1 a2 else(if dC a1.afo 6 then j3 n a0 a1 a2 else(if dC a1.afo 7 then j4 n a0 a1 a2 else(if dC a1.afo 8 then fV n a0 a1 a2 else(if dC a1.afo 12 then fV n a0 a1 a2 else(if dC a1.afo 9 then fT n a0 a1 a2 else(if dC a1.afo 13 then fT n a0 a1 a2 else(if dC a1.afo 10 then gl n a0 a1 a2 else(if dC a1.afo 14 then gl n a0 a1 a2 else(if dC a1.afo 11 then gm n a0 a1 a2 else(if dC a1.afo 15 then gm n a0 a1 a2 else(if dC a1.afo 16 then l7 n a0 a1 a2 else(if dC a1.afo 17 then l7 n a0 a1 a2 else(if dC a1.afo 18 then qD a0 a1 a2 else(if dC a1.afo 19 then jK n a0 a1 a2 else(if dC a1.afo 20 then ll n a0 a1 a2 else none)))))))))))))))))))
def Pf.fk(L:List Fm)(k i:Int)(s:Ty)(ts:List Tm)(fs:List Fm)(l:List Pf)(g:List Ty)(hs:List Fm):(Pf.mk k i s ts fs l).inf L g hs=lT (ke L k i s ts fs (Pf.nt L l) g hs):=by rw[Pf.inf]
def fI.of{L:List Fm}{k i:Int}{s:Ty}{ts:List Tm}{fs:List Fm}{l:List Pf}{N:Nat}
  (H:∀n n',N<=n->N<=n'->∀p c,PG L p c->hO c.afs (ke L k i s ts fs (Pf.nt L l) c.afs c.afv) (kW (n+4) L (.mk k i s ts fs l) p) (c6 (n'+4) c (.mk k i s ts fs l))):fI L (.mk k i s ts fs l) (N+5):=by
 intro n n' hn b p c h;obtain⟨m,rfl⟩:∃m,n=m+5:=⟨n-5,Zb⟩;obtain⟨a,rfl⟩:∃a,n'=a+5:=⟨n'-5,Zb⟩;exact hO.infer h.pl.nv (H m a Zb Zb p c h)
def TK(n:Nat)(c:cY)(i:Int):c6 (n+1) c (.mk 1 i .z [] [] [])=if(sS i (dT c.afv)) then some (eA,[],8)else cH (du c.afv (eH .i64 (eH .i64 (dT c.afv) 1) i)) λa=>some (a,[],0):=by rw[c6];rfl
def I8(L:List Fm)(i:Int)(g:List Ty)(hs:List Fm):ke L 1 i .z [] [] (Pf.nt L []) g hs=mX ((hs.length:Int)<=i) 8 (.inl (hs.getD (hs.length-1-i.toNat) eA,0)):=rfl
def Tf(n:Nat)(L:List Fm)(i:Int)(p:cS):kW n L (.mk 1 i .z [] [] []) p=c0 (j0 p i) λa b=>if b then some (⟨a,0⟩,0)else some (⟨eA,0⟩,8):=rfl
def Iy{L:List Fm}{i:Int}(hi:0<=i):fI L (.mk 1 i .z [] [] []) 5:=by
 refine fI.of (N:=0) λn n' _ _ p c h=>?_;rw[TK,I8,Tf];have g:=h.pl.E3 hi
 by_cases e:(c.afv.length:Int)<=i
 ·grind[ft,cI,sS,dT,fB,dK,hO.no]
 ·rw[cJ e] at g;obtain⟨f,d,k⟩:=g;rw[eP e,k,cI,cL rfl,cJ (show¬(sS i (dT c.afv)=true) by rw[fB,dK];exact e),d,cG];have l:=h.pl.nh;rw[dK,dF (a:=(c.afv.length:Int)) Zb Zb,dF Zb Zb] at d
  have b:c.afv.length-1-i.toNat<c.afv.length:=Zb
  rw[show(c.afv.length:Int)-1-i=((c.afv.length-1-i.toNat:Nat):Int) by omega,fw,mr b] at d
  have m:c.afv.getD (c.afv.length-1-i.toNat) eA=f:=by grind
  have j:=h.afv f (by rw[<-hZ d];exact zf b);exact hO.yes (by rw[m]) rfl rfl .nil j.ty (by have:=j.afq;omega)
def S1(n:Nat)(c:cY)(i:Int):c6 (n+1) c (.mk 2 i .z [] [] [])=if(sS i (dT c.lemmas)) then some (eA,[],9)else cH (du c.lemmas i) λa=>some (a,[],0):=by rw[c6];rfl
def IB(L:List Fm)(i:Int)(g:List Ty)(hs:List Fm):ke L 2 i .z [] [] (Pf.nt L []) g hs=mX ((L.length:Int)<=i) 9 (.inl (L.getD i.toNat eA,0)):=rfl
def T7(n:Nat)(L:List Fm)(i:Int)(p:cS):kW n L (.mk 2 i .z [] [] []) p=if(sS i (dT L)) then some (⟨eA,0⟩,9)else cH (du L i) λa=>some (⟨a,0⟩,0):=rfl
def Jz{L:List Fm}{i:Int}(hi:0<=i):fI L (.mk 2 i .z [] [] []) 5:=by
 refine fI.of (N:=0) λn n' _ _ p c h=>?_;rw[S1,IB,T7,h.zl]
 by_cases b:(L.length:Int)<=i
 ·grind[ft,fB,dK,hO.no]
 ·obtain⟨k,rfl⟩:∃k:Nat,i=k:=⟨i.toNat,Zb⟩
  have a:k<L.length:=Zb
  rw[eP b,cJ (by rw[fB,dK];exact b),cJ (by rw[fB,dK];exact b),fw,mr a,cG,cG]
  have e:L.getD (k:Int).toNat eA=L[k]:=by grind
  have d:=h.Oq _ (zf a);exact hO.yes (by rw[e]) rfl rfl .nil (by simpa using d.ty.front c.afs) (by have:=d.afq;omega)
def O9(n:Nat)(c:cY)(a b:Pf):c6 (n+1) c (.mk 3 0 .z [] [] [a,b])=c0 (dg n c a) λd e=>if(dI e 0) then some (eA,[],e)else c0 (dg n c b) λf g=>cH (m7 2 d.cZ f.cZ) λh=>cH (e_ d.fF f.fF) λi=>some (h,i,g):=by rw[c6];rfl
def EF(L:List Fm)(a b:Pf)(g:List Ty)(hs:List Fm):ke L 3 0 .z [] [] (Pf.nt L [a,b]) g hs=pbind (a.inf L g hs) λf m=>pbind (b.inf L g hs) λf' n=>.inl (.mk 2 .z [] [f,f'],m|||n):=rfl
def OK(n:Nat)(L:List Fm)(a b:Pf)(p:cS):kW (n+1) L (.mk 3 0 .z [] [] [a,b]) p=c0 (dP n L a p) λc d=>if(dI d 0) then some (⟨eA,0⟩,d)else c0 (dP n L b p) λe f=>if(dI f 0) then some (⟨eA,0⟩,f)else some (⟨.mk 2 .z [] [c.cZ,e.cZ],vw .u32 c.fF e.fF⟩,0):=by
 show j5 (n+1) L (.mk 3 0 .z [] [] [a,b]) p=_;rw[j5];rfl
def EU:eA.wt<=1000000:=Zk
def GA{L:List Fm}{a b:Pf}{N:Nat}(t:fI L a N)(u:fI L b N):fI L (.mk 3 0 .z [] [] [a,b]) (N+5):=by
 refine fI.of λn n' hn v p c h=>?_;rw[O9,EF,OK];rcases t (n+3) (n'+3) Zb Zb p c h with⟨e,he,d,g,i⟩|⟨f,m,l,d,g,i,hu,o⟩
 ·rw[d,g,i,cI,cI,cL (by rw[cP];exact he),cL (by rw[cP];exact he)];exact hO.no he rfl rfl rfl
 ·have w:=o.afq;have x:=f.eY o.ok;rw[d,g,i,cI,cI,cJ Zk,cJ Zk,dA];rcases u (n+3) (n'+3) Zb Zb p c h with⟨e,he,d,g,i⟩|⟨f',B,C,d,g,i,k,j⟩
  ·obtain⟨q,q1,_⟩:=hu.union .nil (by have:=hu.len;omega) aae;have:=EU;rw[d,g,i,cI,cI,cL (by rw[cP];exact he)];simp only[];rw[yU Zb Zb,cG,q1];exact hO.no he rfl rfl rfl
  ·have r:=j.afq;have s:=f'.eY j.ok;obtain⟨q,q1,y,A,_⟩:=hu.union k (by have:=hu.len;omega) (by have:=k.len;omega);rw[d,g,i,cI,cI,cJ Zk,dA];simp only[];rw[yU Zb Zb,cG,q1,y];refine hO.yes rfl rfl rfl A (.two (.inl rfl) o.ty j.ty) ?_;rw[Fm.cK];simp only[cN];omega
def eX.yk{g:List Ty}{f:Fm}(h:eX g f){k:Int}(d:f.afo=k)(e:k=2\/k=3):∃a b,f=.mk k .z [] [a,b]/\eX g a/\eX g b:=by
 cases h with
 |eq _ _=>grind[Fm.c8]|two c i j=>grind[Fm.c8]|q c _ _=>grind[Fm.c8]
def eX.nV{g:List Ty}{f:Fm}(h:eX g f){k:Int}(d:f.afo=k)(e:k=4\/k=5\/k=6\/k=7):∃s a,f=.mk k s [] [a]/\s.err=0/\eX (g++[s]) a:=by
 cases h with
 |eq _ _=>grind[Fm.c8]|two b c i=>grind[Fm.c8]|q b hs c=>grind[Fm.c8]
def eX.Ix{g:List Ty}{f:Fm}(h:eX g f)(i:f.afo=1):∃a b,f=.mk 1 .z [a,b] []/\dd g a .nat/\dd g b .nat:=by
 cases h with
 |eq d e=>grind|two c d e=>simp_all|q c hs d=>simp_all
def Hg.sub{g a:List Ty}{k:Int}{s:Ty}{ts:List Tm}{l:List Fm}(h:Hg g (.mk k s ts l)){x:Fm}(c:x∈l)(b:eX a x):Hg a x:=by
 have d:=h.afq;rw[Fm.cK] at d;have:=cV Fm.afq c;refine⟨?_,b⟩;unfold Fm.err;rw[cL b.ok,cJ Zb]
def Pd(n:Nat)(c:cY)(a:Pf):c6 (n+1) c (.mk 4 0 .z [] [] [a])=c0 (dg n c a) λb d=>if(dI d 0) then some (eA,[],d)else if(dI b.cZ.afo 2) then some (eA,[],10)else cH (du b.cZ.afp (eH .i64 4 4)) λe=>some (e,b.fF,0):=by rw[c6];rfl
def OR(n:Nat)(c:cY)(a:Pf):c6 (n+1) c (.mk 5 0 .z [] [] [a])=c0 (dg n c a) λb d=>if(dI d 0) then some (eA,[],d)else if(dI b.cZ.afo 2) then some (eA,[],10)else cH (du b.cZ.afp (eH .i64 5 4)) λe=>some (e,b.fF,0):=by rw[c6];rfl
def E0(L:List Fm)(a:Pf)(g:List Ty)(hs:List Fm):ke L 4 0 .z [] [] (Pf.nt L [a]) g hs=pbind (vt (a.inf L g hs) 2) λf m=>.inl (f.afp.getD 0 eA,m):=rfl
def Em(L:List Fm)(a:Pf)(g:List Ty)(hs:List Fm):ke L 5 0 .z [] [] (Pf.nt L [a]) g hs=pbind (vt (a.inf L g hs) 2) λf m=>.inl (f.afp.getD 1 eA,m):=rfl
def PV(n:Nat)(L:List Fm)(a:Pf)(p:cS):kW (n+1) L (.mk 4 0 .z [] [] [a]) p=c0 (dG n L a p 2) λb c=>if(dI c 0) then some (⟨eA,0⟩,c)else cH (du b.cZ.afp 0) λd=>some (⟨d,b.fF⟩,0):=by
 show gk (n+1) L (.mk 4 0 .z [] [] [a]) p=_;rw[gk];rfl
def Pt(n:Nat)(L:List Fm)(a:Pf)(p:cS):kW (n+1) L (.mk 5 0 .z [] [] [a]) p=c0 (dG n L a p 2) λb c=>if(dI c 0) then some (⟨eA,0⟩,c)else cH (du b.cZ.afp 1) λd=>some (⟨d,b.fF⟩,0):=by
 show gk (n+1) L (.mk 5 0 .z [] [] [a]) p=_;rw[gk];rfl
def Gy{L:List Fm}{a:Pf}{N:Nat}(o:fI L a N):fI L (.mk 4 0 .z [] [] [a]) (N+5):=by
 refine fI.of λn n' hn q p c h=>?_;rw[Pd,E0,PV];rcases iN (o (n+2) (n'+3) Zb Zb p c h) 2 with⟨e,he,d,g,b⟩|⟨f,m,l,d,g,b,hu,j,i⟩
 ·rw[d,g,cI,cL (by rw[cP];exact he)];rcases b with b|⟨f,l,m,b,i,rfl,_⟩
  ·rw[b,cI,cL (by rw[cP];exact he)];exact hO.no he rfl rfl rfl
  ·rw[b,cI,cJ Zk,cL (by rw[cP];exact i)];exact hO.no he rfl rfl rfl
 ·obtain⟨x,y,rfl,k,hy⟩:=j.ty.yk i (.inl rfl);rw[d,g,b,cI,cI,cJ Zk,cJ aae,dA];exact hO.yes (f:=x) rfl rfl rfl hu k (by have:=(j.sub aae k).afq;omega)
def Ha{L:List Fm}{a:Pf}{N:Nat}(k:fI L a N):fI L (.mk 5 0 .z [] [] [a]) (N+5):=by
 refine fI.of λn n' hn o p c h=>?_;rw[OR,Em,Pt];rcases iN (k (n+2) (n'+3) Zb Zb p c h) 2 with⟨e,he,d,g,b⟩|⟨f,m,l,d,g,b,hu,j,i⟩
 ·rw[d,g,cI,cL (by rw[cP];exact he)];rcases b with b|⟨f,l,m,b,i,rfl,_⟩
  ·rw[b,cI,cL (by rw[cP];exact he)];exact hO.no he rfl rfl rfl
  ·rw[b,cI,cJ Zk,cL (by rw[cP];exact i)];exact hO.no he rfl rfl rfl
 ·obtain⟨x,y,rfl,q,hy⟩:=j.ty.yk i (.inl rfl);rw[d,g,b,cI,cI,cJ Zk,cJ aae,dA];exact hO.yes (f:=y) rfl rfl rfl hu hy (by have:=(j.sub aae hy).afq;omega)
def Pm(n:Nat)(c:cY)(F:Fm)(a:Pf):c6 (n+1) c (.mk 6 0 .z [] [F] [a])=cH (jg c.afs F) λb=>if(dI b 0) then some (eA,[],b)else cH (df c 0 1) λd=>if(dI d 0) then some (eA,[],d)else cH (eV c F) λf=>c0 (dg n f a) λe g=>cH (m7 3 F e.cZ) λh=>some (h,e.fF,g):=by rw[c6];rfl
def ED(L:List Fm)(F:Fm)(a:Pf)(g:List Ty)(hs:List Fm):ke L 6 0 .z [] [F] (Pf.nt L [a]) g hs=fW (F.nI g) (mX (16<hs.length+1) 3 (pbind (a.inf L g (hs++[F])) λb m=>.inl (.mk 3 .z [] [F,b],m))):=rfl
def PQ(n:Nat)(L:List Fm)(F:Fm)(a:Pf)(p:cS):kW (n+1) L (.mk 6 0 .z [] [F] [a]) p=cH (dE FU p.afs F) λb=>if(dI b 0) then some (⟨eA,0⟩,b)else cH (dh p.eI 0 1) λc=>if(dI c 0) then some (⟨eA,0⟩,c)else cH (eB p F) λf=>c0 (dP n L a f) λd e=>if(dI e 0) then some (⟨eA,0⟩,e)else some (⟨.mk 3 .z [] [F,d.cZ],d.fF⟩,0):=by
 show j3 (n+1) L (.mk 6 0 .z [] [F] [a]) p=_;rw[j3];rfl
def Hd{L:List Fm}{F:Fm}(hF:F.err=0){a:Pf}{N:Nat}(u:fI L a N):fI L (.mk 6 0 .z [] [F] [a]) (N+5):=by
 refine fI.of λn n' hn w p c h=>?_;rw[Pm,ED,PQ];have j:=h.pl.nv;obtain⟨t1,_,t2⟩:=mv h.pl.ctx Zb hF;have x:=(Fm.ey hF).2;have y:=F.eY (Fm.ey hF).1;rw[h.pl.afs,t1,t2 j,cG,cG]
 by_cases b:F.nI c.afs=0
 ·rw[cJ (by rw[cP];simpa using b),cJ (by rw[cP];simpa using b),ej b];have i:=lx F (Fm.ey hF).1 c.afs h.pl.ctx b;rcases h.room (v:=0) (k:=1) Zb Zb with⟨d,g,_,t⟩|⟨d,g,t⟩
  ·have d:dh p.eI 0 1=some 0:=d;have g:df c 0 1=some 0:=g;rw[d,g,cG,cG,cJ Zk,cJ Zk,eP Zb];obtain⟨A,B,C,D,E,G,H⟩:=h.with ⟨hF,i⟩ t;rw[C,D,cG,cG];have hi:=u (n+3) (n'+3) Zb Zb A B E;rw[G,H] at hi;rcases hi with⟨e,he,o,q,r⟩|⟨f,m,l,o,q,r,hu,s⟩
   ·have:=EU;rw[o,q,r,cI,cI,cL (by rw[cP];exact he)];simp only[];rw[yU Zb Zb];exact hO.no he rfl rfl rfl
   ·have I:=s.afq;have J:=f.eY s.ok;rw[o,q,r,cI,cI,cJ Zk];simp only[];rw[yU Zb Zb];refine hO.yes rfl rfl rfl hu (.two (.inr rfl) i s.ty) ?_;rw[Fm.cK];simp only[cN];omega
  ·have d:dh p.eI 0 1=some 3:=d;have g:df c 0 1=some 3:=g;rw[d,g,cG,cG,cL Zk,cL Zk,ft Zb];exact hO.no Zk rfl rfl rfl
 ·rw[cL (by rw[cP];exact b),cL (by rw[cP];exact b),fy b];exact hO.no b rfl rfl rfl
def Oo(n:Nat)(c:cY)(a b:Pf):c6 (n+1) c (.mk 7 0 .z [] [] [a,b])=c0 (dg n c a) λd e=>if(dI e 0) then some (eA,[],e)else if(dI d.cZ.afo 3) then some (eA,[],10)else c0 (dg n c b) λf g=>if(dI g 0) then some (eA,[],g)else cH (du d.cZ.afp 1) λh=>cH (e_ d.fF f.fF) λi=>cH (du d.cZ.afp 0) λj=>cH (mc j f.cZ) λk=>some (h,i,k):=by rw[c6];rfl
def DT(L:List Fm)(a b:Pf)(g:List Ty)(hs:List Fm):ke L 7 0 .z [] [] (Pf.nt L [a,b]) g hs=pbind (vt (a.inf L g hs) 3) λa m=>pbind (b.inf L g hs) λb n=>fW (p9 (a.afp.getD 0 eA) b) (.inl (a.afp.getD 1 eA,m|||n)):=rfl
def Ox(n:Nat)(L:List Fm)(a b:Pf)(p:cS):kW (n+1) L (.mk 7 0 .z [] [] [a,b]) p=c0 (dG n L a p 3) λc d=>if(dI d 0) then some (⟨eA,0⟩,d)else c0 (dP n L b p) λe f=>if(dI f 0) then some (⟨eA,0⟩,f)else cH (du c.cZ.afp 0) λh=>cH (gZ h e.cZ) λg=>if(dI g 0) then some (⟨eA,0⟩,g)else cH (du c.cZ.afp 1) λi=>some (⟨i,vw .u32 c.fF e.fF⟩,0):=by
 show j4 (n+1) L (.mk 7 0 .z [] [] [a,b]) p=_;rw[j4];rfl
def G9{L:List Fm}{a b:Pf}{N:Nat}(A:fI L a N)(B:fI L b N):fI L (.mk 7 0 .z [] [] [a,b]) (N+5):=by
 refine fI.of λn n' hn C p c h=>?_;rw[Oo,DT,Ox];rcases iN (A (n+2) (n'+3) Zb Zb p c h) 3 with⟨e,he,g,i,d⟩|⟨f,m,l,g,i,d,hu,o,r⟩
 ·rw[g,i,cI,cL (by rw[cP];exact he)];rcases d with d|⟨f,l,m,d,r,rfl,_⟩
  ·rw[d,cI,cL (by rw[cP];exact he)];exact hO.no he rfl rfl rfl
  ·rw[d,cI,cJ Zk,cL (by rw[cP];exact r)];exact hO.no he rfl rfl rfl
 ·obtain⟨x,y,rfl,u,hy⟩:=o.ty.yk r (.inr rfl);have s:=o.sub (x:=x) aae u;have t:=o.sub (x:=y) aae hy;have D:=x.eY u.ok;have E:=s.afq;rw[g,i,d,cI,cI,cJ Zk,cJ Zk,cJ aae,dA];rcases B (n+3) (n'+3) Zb Zb p c h with⟨e,he,g,i,d⟩|⟨f',J,K,g,i,d,j,k⟩
  ·rw[g,i,d,cI,cI,cL (by rw[cP];exact he),cL (by rw[cP];exact he)];exact hO.no he rfl rfl rfl
  ·have v:=k.afq;have w:=f'.eY k.ok;obtain⟨q,q1,F,G,_⟩:=hu.union j (by have:=hu.len;omega) (by have:=j.len;omega);obtain⟨H,I⟩:=BE (a:=x) (b:=f') Zb Zb;rw[g,i,d,cI,cI,cJ Zk,cJ Zk,dA];simp only[Fm.cX,dc,ef,fL,iU,cG,rk,FV];rw[q1,F,H,I,cG,cG,cG]
   by_cases hm:p9 x f'=0
   ·rw[ej hm,hm,cJ Zk];exact hO.yes rfl rfl rfl G hy (by have:=t.afq;omega)
   ·rw[fy hm,cL (by rw[cP];exact hm)];exact hO.no hm rfl rfl rfl
def Us.has{l:List Int}{m:Nat}(h:Us l m):qI l=some (m.testBit 0)/\dI (pz .u32 (m:Int) 1) 0=m.testBit 0:=by
 have hm:=h.mem 0;constructor
 ·unfold qI;simp only[cO];cases l with
  |nil=>simp_all|cons a l=>
   rw[cL aae];simp only[dc,fL,cG]
   congr 1
   rw[vR,dS,<-hm];constructor
   ·rintro rfl;simp
   ·intro hh;rcases gT.1 hh with hh|hh
    ·exact hh.symm
    ·cases h.Qc with
     |cons s1 _=>
      have:=s1 0 (by simpa using hh);have:=h.pos a aae;omega
 ·rw[show(1:Int)=((1:Nat):Int)from rfl,CN h.lt Zb];rw[vR,cP,aaQ,ZW];simp only[j8];omega
def Oj(n:Nat)(c:cY)(s:Ty)(a:Pf):c6 (n+2) c (.mk 8 0 s [] [] [a])=iG (cH (df c 1 0) λk=>if(dI k 0) then some (eA,[],k)else cH (ed c [s]) λh=>c0 (dg n h a) λb d=>if(dI d 0) then some (eA,[],d)else cH (js 4 s b.cZ) λi=>cH (eT b.fF 1) λj=>some (i,j,0)) λe f g=>some (e,f,g):=by
 rw[c6];rw[nu];rfl
def Mm(n:Nat)(c:cY)(s:Ty)(a:Pf):c6 (n+2) c (.mk 12 0 s [] [] [a])=iG (cH (df c 1 0) λl=>if(dI l 0) then some (eA,[],l)else cH (ed c [s]) λh=>c0 (dg n h a) λb d=>if(dI d 0) then some (eA,[],d)else cH (qI b.fF) λi=>if i then some (eA,[],12)else cH (js 6 s b.cZ) λj=>cH (eT b.fF 1) λk=>some (j,k,0)) λe f g=>some (e,f,g):=by
 rw[c6];rw[nu];rfl
def v8(L:List Fm)(s:Ty)(a:Pf)(g:List Ty)(hs:List Fm):ke L 8 0 s [] [] (Pf.nt L [a]) g hs=mX (16<g.length+1) 3 (pbind (a.inf L (g++[s]) (hs.map (Fm.up 0 1))) λb m=>.inl (.mk 4 s [] [b],m/2)):=rfl
def uZ(L:List Fm)(s:Ty)(a:Pf)(g:List Ty)(hs:List Fm):ke L 12 0 s [] [] (Pf.nt L [a]) g hs=mX (16<g.length+1) 3 (pbind (a.inf L (g++[s]) (hs.map (Fm.up 0 1))) λb m=>mX (m.testBit 0=true) 12 (.inl (.mk 6 s [] [b],m/2))):=rfl
def OB(n:Nat)(L:List Fm)(s:Ty)(a:Pf)(p:cS):kW (n+1) L (.mk 8 0 s [] [] [a]) p=cH (dh p.eI 1 0) λf=>if(dI f 0) then some (⟨eA,0⟩,f)else cH (en p [s]) λd=>c0 (dP n L a d) λb c=>if(dI c 0) then some (⟨eA,0⟩,c)else cH (ea b.fF 1) λe=>some (⟨.mk 4 s [] [b.cZ],e⟩,0):=by
 show fV (n+1) L (.mk 8 0 s [] [] [a]) p=_;rw[fV];rfl
def Mo(n:Nat)(L:List Fm)(s:Ty)(a:Pf)(p:cS):kW (n+1) L (.mk 12 0 s [] [] [a]) p=cH (dh p.eI 1 0) λf=>if(dI f 0) then some (⟨eA,0⟩,f)else cH (en p [s]) λd=>c0 (dP n L a d) λb c=>if(dI c 0) then some (⟨eA,0⟩,c)else if(dI (pz .u32 b.fF 1) 0) then some (⟨eA,0⟩,12)else cH (ea b.fF 1) λe=>some (⟨.mk 6 s [] [b.cZ],e⟩,0):=by
 show fV (n+1) L (.mk 12 0 s [] [] [a]) p=_;rw[fV];rfl
def Gv{L:List Fm}{s:Ty}(hs:s.err=0){a:Pf}{N:Nat}(t:fI L a N):fI L (.mk 8 0 s [] [] [a]) (N+5):=by
 refine fI.of λn n' hn u p c h=>?_;rw[show n'+4=n'+2+2 from rfl,Oj,v8,OB];rcases h.room (v:=1) (k:=0) Zb Zb with⟨b,d,r,_⟩|⟨b,d,r⟩
 ·have b:dh p.eI 1 0=some 0:=b;have d:df c 1 0=some 0:=d;rw[b,d,cG,cG,cJ nz,cJ nz,eP Zb];obtain⟨w,x,y,z,A,B,C⟩:=h.below hs r;rw[y,z,cG,cG];have hi:=t (n+3) (n'+2) Zb Zb w x A;rw[B,C] at hi;rcases hi with⟨e,he,g,i,j⟩|⟨f,m,l,g,i,j,hu,o⟩
  ·rw[g,i,j,cI,cI,cL (by rw[cP];exact he),cL (by rw[cP];exact he)];exact hO.no he rfl rfl rfl
  ·have D:=o.afq;have E:=f.eY o.ok;have F:=dx hs;obtain⟨u1,u2,u3⟩:=hu.out (by have:=hu.len;omega) (k:=1) Zb;rw[g,i,j,cI,cI,cJ nz,cJ nz,dA];simp only[];rw[vO Zb Zb,cG,show(1:Int)=((1:Nat):Int)from rfl,u1,u2];refine hO.yes rfl rfl rfl u3 (.q (.inl rfl) hs o.ty) ?_;rw[Fm.cK];simp only[cN];omega
 ·have b:dh p.eI 1 0=some 3:=b;have d:df c 1 0=some 3:=d;have G:=h.pl.nh;rw[b,d,cG,cG,cL Zk,cL Zk,ft Zb];exact hO.no Zk rfl rfl rfl
def D2{L:List Fm}{s:Ty}(hs:s.err=0){a:Pf}{N:Nat}(u:fI L a N):fI L (.mk 12 0 s [] [] [a]) (N+5):=by
 refine fI.of λn n' hn w p c h=>?_;rw[show n'+4=n'+2+2 from rfl,Mm,uZ,Mo];rcases h.room (v:=1) (k:=0) Zb Zb with⟨b,d,t,_⟩|⟨b,d,t⟩
 ·have b:dh p.eI 1 0=some 0:=b;have d:df c 1 0=some 0:=d;rw[b,d,cG,cG,cJ nz,cJ nz,eP Zb];obtain⟨x,y,z,A,B,C,D⟩:=h.below hs t;rw[z,A,cG,cG];have hi:=u (n+3) (n'+2) Zb Zb x y B;rw[C,D] at hi;rcases hi with⟨e,he,i,j,o⟩|⟨f,m,l,i,j,o,hu,r⟩
  ·rw[i,j,o,cI,cI,cL (by rw[cP];exact he),cL (by rw[cP];exact he)];exact hO.no he rfl rfl rfl
  ·have E:=r.afq;have F:=f.eY r.ok;have G:=dx hs;obtain⟨u1,u2,u3⟩:=hu.out (by have:=hu.len;omega) (k:=1) Zb;obtain⟨H,I⟩:=hu.has;rw[i,j,o,cI,cI,cJ nz,cJ nz,dA];simp only[];rw[H,I,cG]
   by_cases g:m.testBit 0=true
   ·rw[ft g,cL g,cL g];exact hO.no Zk rfl rfl rfl
   ·rw[eP g,cJ g,cJ g,vO Zb Zb,cG,show(1:Int)=((1:Nat):Int)from rfl,u1,u2];refine hO.yes rfl rfl rfl u3 (.q (.inr (.inr (.inl rfl))) hs r.ty) ?_;rw[Fm.cK];simp only[cN];omega
 ·have b:dh p.eI 1 0=some 3:=b;have d:df c 1 0=some 3:=d;have J:=h.pl.nh;rw[b,d,cG,cG,cL Zk,cL Zk,ft Zb];exact hO.no Zk rfl rfl rfl
theorem D7(a b:Ty):a.fX b=b.fX a:=by grind[Ty.gi]
def ki{a b:Ty}(c:a.err=0)(d:b.err=0):gp (mi a) b=some (a.fX b)/\eG FU b a=some (a.fX b):=by
 have e:=dx c;have f:=dx d
 grind[gp,gK,cG,lP,fm,D7]
def Tb(n:Nat)(c:cY)(t:Tm)(a:Pf):c6 (n+2) c (.mk 9 0 .z [t] [] [a])=iG (c0 (jz c.afs t) λp o=>if(dI o 0) then some (eA,[],o)else c0 (dg n c a) λb d=>if(dI d 0) then some (eA,[],d)else cH (jl t) λh=>cH (e_ b.fF h) λi=>if(dI b.cZ.afo 4) then some (eA,[],10)else cH (eG FU b.cZ.cW p) λj=>if j then cH (du b.cZ.afp 0) λk=>c0 (iF k t) λl m=>some (l,i,m)else some (eA,[],7)) λe f g=>some (e,f,g):=by
 rw[c6];rw[oy];rfl
def OQ(n:Nat)(c:cY)(t:Tm)(a:Pf):c6 (n+2) c (.mk 13 0 .z [t] [] [a])=iG (c0 (jz c.afs t) λo m=>if(dI m 0) then some (eA,[],m)else c0 (dg n c a) λb d=>if(dI d 0) then some (eA,[],d)else cH (jl t) λh=>cH (e_ b.fF h) λp=>if(dI b.cZ.afo 6) then some (eA,[],10)else cH (eG FU b.cZ.cW o) λi=>if i then cH (du b.cZ.afp 0) λj=>c0 (iF j t) λk l=>some (k,b.fF,l)else some (eA,[],7)) λe f g=>some (e,f,g):=by
 rw[c6];rw[oy];rfl
def JO(L:List Fm)(t:Tm)(a:Pf)(g:List Ty)(hs:List Fm):ke L 9 0 .z [t] [] (Pf.nt L [a]) g hs=fW (t.ty g).2 (pbind (vt (a.inf L g hs) 4) λa m=>mX ((t.ty g).1.fX a.cW=false) 7 (fW (gH (a.afp.getD 0 eA) t).2 (.inl ((gH (a.afp.getD 0 eA) t).1,m|||jZ t)))):=rfl
def EM(L:List Fm)(t:Tm)(a:Pf)(g:List Ty)(hs:List Fm):ke L 13 0 .z [t] [] (Pf.nt L [a]) g hs=fW (t.ty g).2 (pbind (vt (a.inf L g hs) 6) λa m=>mX ((t.ty g).1.fX a.cW=false) 7 (fW (gH (a.afp.getD 0 eA) t).2 (.inl ((gH (a.afp.getD 0 eA) t).1,m)))):=rfl
def Ta(n:Nat)(L:List Fm)(t:Tm)(a:Pf)(p:cS):kW (n+1) L (.mk 9 0 .z [t] [] [a]) p=c0 (dz FU p.afs t) λj i=>if(dI i 0) then some (⟨eA,0⟩,i)else cH (iO t) λd=>c0 (dG n L a p 4) λb c=>if(dI c 0) then some (⟨eA,0⟩,c)else cH (gp j b.cZ.cW) λe=>if e then cH (du b.cZ.afp 0) λf=>c0 (gP f t) λg h=>some (⟨g,vw .u32 b.fF d⟩,h)else some (⟨eA,0⟩,7):=by
 show fT (n+1) L (.mk 9 0 .z [t] [] [a]) p=_;rw[fT];rfl
def Pv(n:Nat)(L:List Fm)(t:Tm)(a:Pf)(p:cS):kW (n+1) L (.mk 13 0 .z [t] [] [a]) p=c0 (dz FU p.afs t) λi h=>if(dI h 0) then some (⟨eA,0⟩,h)else cH (iO t) λj=>c0 (dG n L a p 6) λb c=>if(dI c 0) then some (⟨eA,0⟩,c)else cH (gp i b.cZ.cW) λd=>if d then cH (du b.cZ.afp 0) λe=>c0 (gP e t) λf g=>some (⟨f,vw .u32 b.fF 0⟩,g)else some (⟨eA,0⟩,7):=by
 show fT (n+1) L (.mk 13 0 .z [t] [] [a]) p=_;rw[fT];rfl
def Co{m:Nat}(h:m<4294967296):vw .u32 (m:Int) 0=(m:Int):=by
 rw[show(0:Int)=((0:Nat):Int)from rfl,Bc h Zb,aaF]
def n9{t:Tm}(a:t.err=0){g:List Ty}(b:fh g):(∃e,e≠0/\(t.ty g).2=e/\∃z,t.ty g=(z,e))\/∃s,t.ty g=(s,0)/\dd g t s/\s.err=0:=by
 obtain⟨s,e,c⟩:∃s e,t.ty g=(s,e):=⟨_,_,rfl⟩
 by_cases he:e=0
 ·subst he;obtain⟨d,f⟩:=kX _ t (jM _) (Tm.ey a).1 g b s c
  grind
 ·grind
def JP{L:List Fm}{t:Tm}(d:t.err=0){a:Pf}{N:Nat}(D:fI L a N):fI L (.mk 9 0 .z [t] [] [a]) (N+5):=by
 refine fI.of λn n' hn E p c h=>?_;have g:=h.pl.nv;rw[show n'+4=n'+2+2 from rfl,Tb,JO,Ta,h.pl.afs,(iP h.pl.ctx g d).1,(iP h.pl.ctx g d).2];rcases n9 d h.pl.ctx with⟨e,he,q1,z,F⟩|⟨s,q1,j,hs⟩
 ·rw[F,hI he,cI,cI,cL (by rw[cP];exact he),cL (by rw[cP];exact he),fy he];exact hO.no he rfl rfl rfl
 ·obtain⟨H,f1,f2,f3⟩:=pY g j d;rw[q1,kj,cI,cI,cJ nz,cJ nz,ej rfl,f1,cG];rcases iN (D (n+2) (n'+2) Zb Zb p c h) 4 with⟨e,he,o,r,i⟩|⟨f,m,l,o,r,i,hu,A,u⟩
  ·rw[o,r,cI,cL (by rw[cP];exact he)];rcases i with i|⟨f,l,m,i,u,rfl,hu⟩
   ·rw[i,cI,cL (by rw[cP];exact he)];exact hO.no he rfl rfl rfl
   ·obtain⟨q,u1,_⟩:=hu.union f3 (by have:=hu.len;omega) (by have:=f3.len;omega);rw[i,cI,cJ nz,f2,cG,u1,cG,cL (by rw[cP];exact u)];exact hO.no he rfl rfl rfl
  ·obtain⟨B,x,rfl,k,C⟩:=A.ty.nV u (.inl rfl);have v:=A.sub (x:=x) aae C;obtain⟨q,u1,u2,u3,_⟩:=hu.union f3 (by have:=hu.len;omega) (by have:=f3.len;omega);rw[o,r,i,cI,cI,cJ nz,cJ nz,f2,cG,dA];simp only[Fm.c8,Fm.ds,Fm.cX,dc,fL,cG,rk];rw[u1,u2,cG,cJ (show¬dI 4 4=true by decide),(ki hs k).1,(ki hs k).2,cG,cG]
   by_cases b:s.fX B=true
   ·have:=(Ty.gi s B).1 b;subst this;have w:lB c.afs x t:=⟨v.err,d,s,C,j⟩;rw[eP (by rw[b];decide),cL b,cL b,(w.both Zb).1,(w.both Zb).2];rcases gO x t with y|⟨G,y⟩
    ·rw[y,cI,cI,fy Zk];exact hO.no Zk rfl rfl rfl
    ·rw[y,cI,cI,ej rfl];exact hO.yes (f:=Fm.ei 0 x t) rfl rfl rfl u3 w.put Zb
   ·rw[ft (by simpa using b),cJ b,cJ b];exact hO.no Zk rfl rfl rfl
def GP{L:List Fm}{t:Tm}(d:t.err=0){a:Pf}{N:Nat}(D:fI L a N):fI L (.mk 13 0 .z [t] [] [a]) (N+5):=by
 refine fI.of λn n' hn E p c h=>?_;have g:=h.pl.nv;rw[show n'+4=n'+2+2 from rfl,OQ,EM,Pv,h.pl.afs,(iP h.pl.ctx g d).1,(iP h.pl.ctx g d).2];rcases n9 d h.pl.ctx with⟨e,he,q1,z,F⟩|⟨s,q1,j,hs⟩
 ·rw[F,hI he,cI,cI,cL (by rw[cP];exact he),cL (by rw[cP];exact he),fy he];exact hO.no he rfl rfl rfl
 ·obtain⟨H,f1,f2,f3⟩:=pY g j d;rw[q1,kj,cI,cI,cJ nz,cJ nz,ej rfl,f1,cG];rcases iN (D (n+2) (n'+2) Zb Zb p c h) 6 with⟨e,he,o,r,i⟩|⟨f,m,l,o,r,i,hu,A,u⟩
  ·rw[o,r,cI,cL (by rw[cP];exact he)];rcases i with i|⟨f,l,m,i,u,rfl,hu⟩
   ·rw[i,cI,cL (by rw[cP];exact he)];exact hO.no he rfl rfl rfl
   ·obtain⟨q,u1,_⟩:=hu.union f3 (by have:=hu.len;omega) (by have:=f3.len;omega);rw[i,cI,cJ nz,f2,cG,u1,cG,cL (by rw[cP];exact u)];exact hO.no he rfl rfl rfl
  ·obtain⟨B,x,rfl,k,C⟩:=A.ty.nV u (.inr (.inr (.inl rfl)));have v:=A.sub (x:=x) aae C;obtain⟨q,u1,_⟩:=hu.union f3 (by have:=hu.len;omega) (by have:=f3.len;omega);rw[o,r,i,cI,cI,cJ nz,cJ nz,f2,cG,dA];simp only[Fm.c8,Fm.ds,Fm.cX,dc,fL,cG,rk];rw[u1,Co hu.lt,cG,cJ (show¬dI 6 6=true by decide),(ki hs k).1,(ki hs k).2,cG,cG]
   by_cases b:s.fX B=true
   ·have:=(Ty.gi s B).1 b;subst this;have w:lB c.afs x t:=⟨v.err,d,s,C,j⟩;rw[eP (by rw[b];decide),cL b,cL b,(w.both Zb).1,(w.both Zb).2];rcases gO x t with y|⟨G,y⟩
    ·rw[y,cI,cI,fy Zk];exact hO.no Zk rfl rfl rfl
    ·rw[y,cI,cI,ej rfl];exact hO.yes (f:=Fm.ei 0 x t) rfl rfl rfl hu w.put Zb
   ·rw[ft (by simpa using b),cJ b,cJ b];exact hO.no Zk rfl rfl rfl
def PX(n:Nat)(c:cY)(t:Tm)(F:Fm)(a:Pf):c6 (n+2) c (.mk 10 0 .z [t] [F] [a])=iG (cH (jg c.afs F) λb=>if(dI b 0) then some (eA,[],b)else if(dI F.afo 5) then some (eA,[],10)else c0 (jz c.afs t) λh d=>if(dI d 0) then some (eA,[],d)else cH (eG FU F.cW h) λi=>if i then cH (du F.afp 0) λj=>c0 (dY n c a j t) λk l=>cH (jl t) λm=>cH (e_ k m) λo=>some (F,o,l)else some (eA,[],7)) λe f g=>some (e,f,g):=by
 rw[c6];rw[oz];rfl
def Pz(n:Nat)(c:cY)(t:Tm)(F:Fm)(a:Pf):c6 (n+2) c (.mk 14 0 .z [t] [F] [a])=iG (cH (jg c.afs F) λb=>if(dI b 0) then some (eA,[],b)else if(dI F.afo 7) then some (eA,[],10)else c0 (jz c.afs t) λh d=>if(dI d 0) then some (eA,[],d)else cH (eG FU F.cW h) λi=>if i then cH (du F.afp 0) λj=>c0 (dY n c a j t) λk l=>some (F,k,l)else some (eA,[],7)) λe f g=>some (e,f,g):=by
 rw[c6];rw[oz];rfl
def Eo(L:List Fm)(t:Tm)(F:Fm)(a:Pf)(g:List Ty)(hs:List Fm):ke L 10 0 .z [t] [F] (Pf.nt L [a]) g hs=fW (F.nI g) (mX (F.afo≠5) 10 (fW (t.ty g).2 (mX ((t.ty g).1.fX F.cW=false) 7 (pbind (tK (a.inf L g hs) (F.afp.getD 0 eA) t) λ_ m=>.inl (F,m|||jZ t))))):=rfl
def Er(L:List Fm)(t:Tm)(F:Fm)(a:Pf)(g:List Ty)(hs:List Fm):ke L 14 0 .z [t] [F] (Pf.nt L [a]) g hs=fW (F.nI g) (mX (F.afo≠7) 10 (fW (t.ty g).2 (mX ((t.ty g).1.fX F.cW=false) 7 (pbind (tK (a.inf L g hs) (F.afp.getD 0 eA) t) λ_ m=>.inl (F,m))))):=rfl
def Pa(n:Nat)(L:List Fm)(t:Tm)(F:Fm)(a:Pf)(p:cS):kW (n+1) L (.mk 10 0 .z [t] [F] [a]) p=cH (dE FU p.afs F) λc=>if(dI c 0) then some (⟨eA,0⟩,c)else if(dI F.afo 5) then some (⟨eA,0⟩,10)else c0 (dz FU p.afs t) λh d=>if(dI d 0) then some (⟨eA,0⟩,d)else cH (gp h F.cW) λi=>if i then cH (du F.afp 0) λe=>c0 (dJ n L a p e t) λf b=>if(dI b 0) then some (⟨eA,0⟩,b)else cH (iO t) λg=>some (⟨F,vw .u32 f.fF g⟩,0)else some (⟨eA,0⟩,7):=by
 show gl (n+1) L (.mk 10 0 .z [t] [F] [a]) p=_;rw[gl];rfl
def PI(n:Nat)(L:List Fm)(t:Tm)(F:Fm)(a:Pf)(p:cS):kW (n+1) L (.mk 14 0 .z [t] [F] [a]) p=cH (dE FU p.afs F) λc=>if(dI c 0) then some (⟨eA,0⟩,c)else if(dI F.afo 7) then some (⟨eA,0⟩,10)else c0 (dz FU p.afs t) λg d=>if(dI d 0) then some (⟨eA,0⟩,d)else cH (gp g F.cW) λh=>if h then cH (du F.afp 0) λe=>c0 (dJ n L a p e t) λf b=>if(dI b 0) then some (⟨eA,0⟩,b)else some (⟨F,vw .u32 f.fF 0⟩,0)else some (⟨eA,0⟩,7):=by
 show gl (n+1) L (.mk 14 0 .z [t] [F] [a]) p=_;rw[gl];rfl
def Gz{L:List Fm}{t:Tm}(d:t.err=0){F:Fm}(hF:F.err=0){a:Pf}{N:Nat}(E:fI L a N):fI L (.mk 10 0 .z [t] [F] [a]) (N+5):=by
 refine fI.of λn n' hn G p c h=>?_;have g:=h.pl.nv;obtain⟨t1,_,t2⟩:=mv h.pl.ctx Zb hF;have H:=(Fm.ey hF).2;rw[show n'+4=n'+2+2 from rfl,PX,Eo,Pa,h.pl.afs,(iP h.pl.ctx g d).1,(iP h.pl.ctx g d).2,t1,t2 g,cG,cG]
 by_cases j:F.nI c.afs=0
 ·have o:¬dI (F.nI c.afs) 0=true:=by rw[cP];simpa using j
  rw[cJ o,cJ o,ej j];have i:=lx F (Fm.ey hF).1 c.afs h.pl.ctx j
  by_cases k:F.afo=5
  ·have o:¬dI F.afo 5=true:=by rw[cP];simpa using k
   rw[cJ o,cJ o,eP (by simpa using k)];rcases n9 d h.pl.ctx with⟨e,he,q1,z,I⟩|⟨s,q1,r,hs⟩
   ·rw[I,hI he,cI,cI,cL (by rw[cP];exact he),cL (by rw[cP];exact he),fy he];exact hO.no he rfl rfl rfl
   ·obtain⟨v,x,rfl,u,D⟩:=i.nV k (.inr (.inl rfl));have w:Hg c.afs (.mk 5 v [] [x]):=⟨hF,i⟩;have y:=w.sub (x:=x) aae D;obtain⟨K,f1,f2,f3⟩:=pY g r d;rw[q1,kj,cI,cI,cJ nz,cJ nz,ej rfl];simp only[Fm.c8,Fm.ds,Fm.cX,dc,fL,cG,rk];rw[(ki hs u).1,(ki hs u).2,cG,cG]
    by_cases b:s.fX v=true
    ·have:=(Ty.gi s v).1 b;subst this;have J:lB c.afs x t:=⟨y.err,d,s,D,r⟩;rw[eP (by rw[b];decide),cL b,cL b];rcases mj g (E (n+2) (n'+1) Zb Zb p c h) J with⟨e,z,l,m,he,A,B,C,hu⟩|⟨f,m,l,A,B,C,hu⟩
     ·obtain⟨q,u1,_⟩:=hu.union f3 (by have:=hu.len;omega) (by have:=f3.len;omega);rw[A,B,C,cI,cI,cL (by rw[cP];exact he),f2,cG,u1];exact hO.no he rfl rfl rfl
     ·obtain⟨q,u1,u2,u3,_⟩:=hu.union f3 (by have:=hu.len;omega) (by have:=f3.len;omega);rw[A,B,C,cI,cI,cJ nz,f1,f2,cG,cG,dA];simp only[];rw[u1,u2];exact hO.yes rfl rfl rfl u3 i Zb
    ·rw[ft (by simpa using b),cJ b,cJ b];exact hO.no Zk rfl rfl rfl
  ·rw[cL (by rw[cP];exact k),cL (by rw[cP];exact k),ft k];exact hO.no Zk rfl rfl rfl
 ·rw[cL (by rw[cP];exact j),cL (by rw[cP];exact j),fy j];exact hO.no j rfl rfl rfl
def GH{L:List Fm}{t:Tm}(g:t.err=0){F:Fm}(hF:F.err=0){a:Pf}{N:Nat}(D:fI L a N):fI L (.mk 14 0 .z [t] [F] [a]) (N+5):=by
 refine fI.of λn n' hn E p c h=>?_;have i:=h.pl.nv;obtain⟨t1,_,t2⟩:=mv h.pl.ctx Zb hF;have G:=(Fm.ey hF).2;rw[show n'+4=n'+2+2 from rfl,Pz,Er,PI,h.pl.afs,(iP h.pl.ctx i g).1,(iP h.pl.ctx i g).2,t1,t2 i,cG,cG]
 by_cases j:F.nI c.afs=0
 ·have o:¬dI (F.nI c.afs) 0=true:=by rw[cP];simpa using j
  rw[cJ o,cJ o,ej j];have d:=lx F (Fm.ey hF).1 c.afs h.pl.ctx j
  by_cases k:F.afo=7
  ·have o:¬dI F.afo 7=true:=by rw[cP];simpa using k
   rw[cJ o,cJ o,eP (by simpa using k)];rcases n9 g h.pl.ctx with⟨e,he,q1,z,H⟩|⟨s,q1,r,hs⟩
   ·rw[H,hI he,cI,cI,cL (by rw[cP];exact he),cL (by rw[cP];exact he),fy he];exact hO.no he rfl rfl rfl
   ·obtain⟨u,x,rfl,q,C⟩:=d.nV k (.inr (.inr (.inr rfl)));have v:Hg c.afs (.mk 7 u [] [x]):=⟨hF,d⟩;have w:=v.sub (x:=x) aae C;rw[q1,kj,cI,cI,cJ nz,cJ nz,ej rfl];simp only[Fm.c8,Fm.ds,Fm.cX,dc,fL,cG,rk];rw[(ki hs q).1,(ki hs q).2,cG,cG]
    by_cases b:s.fX u=true
    ·have:=(Ty.gi s u).1 b;subst this;have I:lB c.afs x t:=⟨w.err,g,s,C,r⟩;rw[eP (by rw[b];decide),cL b,cL b];rcases mj i (D (n+2) (n'+1) Zb Zb p c h) I with⟨e,z,l,m,he,y,A,B,hu⟩|⟨f,m,l,y,A,B,hu⟩
     ·rw[y,A,B,cI,cI,cL (by rw[cP];exact he)];exact hO.no he rfl rfl rfl
     ·rw[y,A,B,cI,cI,cJ nz,dA];simp only[];rw[Co hu.lt];exact hO.yes rfl rfl rfl hu d Zb
    ·rw[ft (by simpa using b),cJ b,cJ b];exact hO.no Zk rfl rfl rfl
  ·rw[cL (by rw[cP];exact k),cL (by rw[cP];exact k),ft k];exact hO.no Zk rfl rfl rfl
 ·rw[cL (by rw[cP];exact j),cL (by rw[cP];exact j),fy j];exact hO.no j rfl rfl rfl
def FK(k:Fm->Option (Fm×List Int×Int))(f:Fm):Option (Fm×List Int×Int):=
 cH (pP FU f 0) λc=>if c then c0 (mf FU f) λa b=>if(dI b 0) then some (eA,[],b)else cH (pP FU a 0) λd=>if d then some (eA,[],6)else k (.mk a.afo (.mk a.cW.afo a.cW.afp) a.dy a.afp)else k (.mk f.afo (.mk f.cW.afo f.cW.afp) f.dy f.afp)
def IG(n:Nat)(c:cY)(a b:Pf):c6 (n+2) c (.mk 11 0 .z [] [] [a,b])=iG (c0 (dg n c a) λd e=>if(dI e 0) then some (eA,[],e)else if(dI d.cZ.afo 5) then some (eA,[],10)else cH (df c 1 1) λg=>if(dI g 0) then some (eA,[],g)else cH (ed c [d.cZ.cW]) λq=>cH (du d.cZ.afp 0) λr=>cH (eV q r) λs=>c0 (dg n s b) λh i=>if(dI i 0) then some (eA,[],i)else FK (λf=>cH (fl FU f 1 (-1)) λj=>cH (eT h.fF 1) λk=>cH (e_ d.fF k) λl=>some (j,l,0)) h.cZ) λm o p=>some (m,o,p):=by
 rw[c6];rw[mS];rfl
def Ig(n:Nat)(c:cY)(a b:Pf):c6 (n+2) c (.mk 15 0 .z [] [] [a,b])=iG (c0 (dg n c a) λd g=>if(dI g 0) then some (eA,[],g)else if(dI d.cZ.afo 7) then some (eA,[],10)else cH (df c 1 1) λh=>if(dI h 0) then some (eA,[],h)else cH (ed c [d.cZ.cW]) λr=>cH (du d.cZ.afp 0) λs=>cH (eV r s) λt=>c0 (dg n t b) λe i=>if(dI i 0) then some (eA,[],i)else FK (λf=>cH (qI e.fF) λj=>if j then some (eA,[],12)else cH (fl FU f 1 (-1)) λk=>cH (eT e.fF 1) λl=>cH (e_ d.fF l) λm=>some (k,m,0)) e.cZ) λo p q=>some (o,p,q):=by
 rw[c6];rw[mS];rfl
def pK(L:List Fm)(a b:Pf)(g:List Ty)(hs:List Fm):ke L 11 0 .z [] [] (Pf.nt L [a,b]) g hs=pbind (vt (a.inf L g hs) 5) λa m=>mX (16<g.length+1\/16<hs.length+1) 3 (pbind (b.inf L (g++[a.cW]) (hs.map (Fm.up 0 1)++[a.afp.getD 0 eA])) λb n=>fW (ox b).2 (.inl ((ox b).1,m|||n/2))):=rfl
def pI(L:List Fm)(a b:Pf)(g:List Ty)(hs:List Fm):ke L 15 0 .z [] [] (Pf.nt L [a,b]) g hs=pbind (vt (a.inf L g hs) 7) λa m=>mX (16<g.length+1\/16<hs.length+1) 3 (pbind (b.inf L (g++[a.cW]) (hs.map (Fm.up 0 1)++[a.afp.getD 0 eA])) λb n=>fW (ox b).2 (mX (n.testBit 0=true) 12 (.inl ((ox b).1,m|||n/2)))):=rfl
def JM(n:Nat)(L:List Fm)(a b:Pf)(p:cS):kW (n+1) L (.mk 11 0 .z [] [] [a,b]) p=c0 (dG n L a p 5) λc d=>if(dI d 0) then some (⟨eA,0⟩,d)else cH (dh p.eI 1 1) λe=>if(dI e 0) then some (⟨eA,0⟩,e)else cH (en p [c.cZ.cW]) λi=>cH (du c.cZ.afp 0) λj=>cH (eB i j) λk=>c0 (dP n L b k) λf g=>if(dI g 0) then some (⟨eA,0⟩,g)else c0 (la f.cZ) λl h=>if(dI h 0) then some (⟨eA,0⟩,h)else cH (ea f.fF 1) λm=>some (⟨l,vw .u32 c.fF m⟩,0):=by
 show gm (n+1) L (.mk 11 0 .z [] [] [a,b]) p=_;rw[gm];rfl
def IQ(n:Nat)(L:List Fm)(a b:Pf)(p:cS):kW (n+1) L (.mk 15 0 .z [] [] [a,b]) p=c0 (dG n L a p 7) λc e=>if(dI e 0) then some (⟨eA,0⟩,e)else cH (dh p.eI 1 1) λf=>if(dI f 0) then some (⟨eA,0⟩,f)else cH (en p [c.cZ.cW]) λi=>cH (du c.cZ.afp 0) λj=>cH (eB i j) λk=>c0 (dP n L b k) λd g=>if(dI g 0) then some (⟨eA,0⟩,g)else c0 (la d.cZ) λl h=>if(dI h 0) then some (⟨eA,0⟩,h)else if(dI (pz .u32 d.fF 1) 0) then some (⟨eA,0⟩,12)else cH (ea d.fF 1) λm=>some (⟨l,vw .u32 c.fF m⟩,0):=by
 show gm (n+1) L (.mk 15 0 .z [] [] [a,b]) p=_;rw[gm];rfl
def Cz{g:List Ty}{s:Ty}{f:Fm}(h:Hg (g++[s]) f)(hg:g.length<=1000)(k:Fm->Option (Fm×List Int×Int))(k':Fm->Option (Fm×List Int×Int))(i:∀x,x.afw 0=0->x.afq<=4096*4096->x.afu 1000000000000=true->k x=k' (x.up 1 (-1))):FK k f=if(ox f).2=0 then k' (ox f).1 else some (eA,[],(ox f).2):=by
 have hn:=h.afq;have l:f.afu 1000000000000=true:=h.ty.afu _ aaV;unfold FK;rw[uT FU f 0 (by rw[dn];omega) Zb Zb Zb,cG,Ty.ma,Fm.ma]
 by_cases e:f.afw 0=0
 ·have hw:ox f=(f.up 1 (-1),0):=by unfold ox;rw[cL e]
  grind
 ·rw[cL (show decide (0<f.afw 0)=true by simp;omega),xj FU f (by rw[dn];omega) Zb (GF.of f hn h.ok (h.ty.afu _ aaV))];obtain⟨f',a,c⟩:∃f' a,f.l0 0=(f',a):=⟨_,_,rfl⟩
  have hw:ox f=if a≠0 then(eA,a)else if f'.afw 0≠0 then(eA,6)else(f'.up 1 (-1),0):=by unfold ox;rw[cJ e,c]
  rw[c];simp only[]
  by_cases he:a=0
  ·subst he;have b:=D4 h.ty 0 aaV hn (by rw[c]);rw[c] at b;obtain⟨_,a2,a3⟩:=b;have a2:eX (g++[s]) f':=a2;have a3:f'.afq<=3000*f.afq:=a3;rw[cJ Zk] at hw;rw[cL rfl,cI,cJ nz,uT FU f' 0 (by rw[dn];omega) Zb Zb Zb,cG,Ty.ma,Fm.ma]
   by_cases d:f'.afw 0=0
   ·rw[cJ (by simpa using d)] at hw;rw[hw,cJ (show¬(decide (0<f'.afw 0)=true) by simp;omega)];exact(i f' d Zb (a2.afu _ aaV)).trans (cL rfl).symm
   ·rw[cL d] at hw;rw[hw,cL (show decide (0<f'.afw 0)=true by simp;omega)];rfl
  ·rw[cL he] at hw
   have j:dI a 0=true:=by rw[cP];exact he
   rw[hw,cJ he,cI,cL j,cJ he]
def Cp{L:List Fm}{a b:Pf}{N:Nat}(I:fI L a N)(J:fI L b N):fI L (.mk 11 0 .z [] [] [a,b]) (N+5):=by
 refine fI.of λn n' hn K p c h=>?_;have M:=h.pl.nv;rw[show n'+4=n'+2+2 from rfl,IG,pK,JM];rcases iN (I (n+2) (n'+2) Zb Zb p c h) 5 with⟨e,he,g,i,d⟩|⟨f,m,l,g,i,d,hu,C,A⟩
 ·rw[g,i,cI,cL (by rw[cP];exact he)];rcases d with d|⟨f,l,m,d,A,rfl,_⟩
  ·rw[d,cI,cL (by rw[cP];exact he)];exact hO.no he rfl rfl rfl
  ·rw[d,cI,cJ nz,cL (by rw[cP];exact A)];exact hO.no he rfl rfl rfl
 ·obtain⟨s,x,rfl,hs,O⟩:=C.ty.nV A (.inr (.inl rfl));have B:=C.sub (x:=x) aae O;rw[g,i,d,cI,cI,cJ nz,cJ nz,cJ aae,dA];simp only[Fm.ds,Fm.cX,dc,fL,cG,rk];rcases h.room (v:=1) (k:=1) Zb Zb with⟨j,o,D,P⟩|⟨j,o,D⟩
  ·have j:dh p.eI 1 1=some 0:=j;have o:df c 1 1=some 0:=o;rw[j,o,cG,cG,cJ nz,cJ nz,eP Zb];obtain⟨p1,c1,Q,R,S,E,F⟩:=h.below hs D;obtain⟨T,U,V,W,X,Y,Z⟩:=S.with (f:=x) (by rw[E];exact B) (by rw[F];simpa using P);rw[Q,R,cG,cG,V,W,cG,cG];have hi:=J (n+3) (n'+2) Zb Zb T U X;rw[Y,Z,E,F] at hi;rcases hi with⟨e,he,g,i,d⟩|⟨f',G,H,g,i,d,u,r⟩
   ·rw[g,i,d,cI,cI,cL (by rw[cP];exact he),cL (by rw[cP];exact he)];exact hO.no he rfl rfl rfl
   ·obtain⟨u1,u2,u3⟩:=u.out (by have:=u.len;omega) (k:=1) Zb;have u1:eT H 1=some (pS ((1:Nat):Int) H):=u1;have u2:ea (G:Int) 1=some ((G/2^1:Nat):Int):=u2;obtain⟨q,v1,v2,v3,_⟩:=hu.union u3 (by have:=hu.len;omega) (by have:=u3.len;omega);rw[g,i,d,cI,cI,cJ nz,cJ nz,dA];simp only[];rw[oI r Zb]
    rw[Cz r Zb _ (λy=>some (y,q,0)) (λy y1 y2 y3=>by
     rw[vh FU y 1 (by rw[dn];omega) Zb Zb Zb y3,cG,u1,cG,v1,cG])]
    obtain⟨w,e,hw⟩:∃w e,ox f'=(w,e):=⟨_,_,rfl⟩;rw[hw,cI]
    by_cases he:e=0
    ·subst he;have t:=yR r Zb hs (by rw[hw]);rw[hw] at t;rw[cJ nz,cL rfl,ej rfl,u2,cG,v2];exact hO.yes rfl rfl rfl v3 t.1 (by have:=t.2;omega)
    ·rw[cL (by rw[cP];exact he),cJ he,fy he];exact hO.no he rfl rfl rfl
  ·have j:dh p.eI 1 1=some 3:=j;have o:df c 1 1=some 3:=o;rw[j,o,cG,cG,cL Zk,cL Zk,ft Zb];exact hO.no Zk rfl rfl rfl
def Db{L:List Fm}{a b:Pf}{N:Nat}(M:fI L a N)(g:fI L b N):fI L (.mk 15 0 .z [] [] [a,b]) (N+5):=by
 refine fI.of λn n' hn O p c h=>?_;have P:=h.pl.nv;rw[show n'+4=n'+2+2 from rfl,Ig,pI,IQ];rcases iN (M (n+2) (n'+2) Zb Zb p c h) 7 with⟨e,he,i,j,d⟩|⟨f,m,l,i,j,d,hu,F,C⟩
 ·rw[i,j,cI,cL (by rw[cP];exact he)];rcases d with d|⟨f,l,m,d,C,rfl,_⟩
  ·rw[d,cI,cL (by rw[cP];exact he)];exact hO.no he rfl rfl rfl
  ·rw[d,cI,cJ nz,cL (by rw[cP];exact C)];exact hO.no he rfl rfl rfl
 ·obtain⟨s,x,rfl,hs,Q⟩:=F.ty.nV C (.inr (.inr (.inr rfl)));have D:=F.sub (x:=x) aae Q;rw[i,j,d,cI,cI,cJ nz,cJ nz,cJ aae,dA];simp only[Fm.ds,Fm.cX,dc,fL,cG,rk];rcases h.room (v:=1) (k:=1) Zb Zb with⟨o,r,G,R⟩|⟨o,r,G⟩
  ·have o:dh p.eI 1 1=some 0:=o;have r:df c 1 1=some 0:=r;rw[o,r,cG,cG,cJ nz,cJ nz,eP Zb];obtain⟨p1,H,S,T,U,I,J⟩:=h.below hs G;obtain⟨V,E,W,X,Y,Z,b5⟩:=U.with (f:=x) (by rw[I];exact D) (by rw[J];simpa using R);rw[S,T,cG,cG,W,X,cG,cG];have hi:=g (n+3) (n'+2) Zb Zb V E Y;rw[Z,b5,I,J] at hi;rcases hi with⟨e,he,i,j,d⟩|⟨f',B,K,i,j,d,t,u⟩
   ·rw[i,j,d,cI,cI,cL (by rw[cP];exact he),cL (by rw[cP];exact he)];exact hO.no he rfl rfl rfl
   ·obtain⟨u1,u2,u3⟩:=t.out (by have:=t.len;omega) (k:=1) Zb;have u1:eT K 1=some (pS ((1:Nat):Int) K):=u1;have u2:ea (B:Int) 1=some ((B/2^1:Nat):Int):=u2;obtain⟨q,v1,v2,v3,_⟩:=hu.union u3 (by have:=hu.len;omega) (by have:=u3.len;omega);rw[i,j,d,cI,cI,cJ nz,cJ nz,dA];simp only[];rw[oI u Zb];obtain⟨H,E⟩:=t.has
    rw[Cz u Zb _ (λy=>if B.testBit 0 then some (eA,[],12)else some (y,q,0)) (λy y1 y2 y3=>by
     rw[H,cG,vh FU y 1 (by rw[dn];omega) Zb Zb Zb y3,cG,u1,cG,v1,cG])]
    obtain⟨w,e,hw⟩:∃w e,ox f'=(w,e):=⟨_,_,rfl⟩;rw[hw,cI]
    by_cases he:e=0
    ·subst he;have A:=yR u Zb hs (by rw[hw]);rw[hw] at A;rw[cJ nz,cL rfl,ej rfl,E]
     by_cases g:B.testBit 0=true
     ·rw[ft g,cL g,cL g];exact hO.no Zk rfl rfl rfl
     ·rw[eP g,cJ g,cJ g,u2,cG,v2];exact hO.yes rfl rfl rfl v3 A.1 (by have:=A.2;omega)
    ·rw[cL (by rw[cP];exact he),cJ he,fy he];exact hO.no he rfl rfl rfl
  ·have o:dh p.eI 1 1=some 3:=o;have r:df c 1 1=some 3:=r;rw[o,r,cG,cG,cL Zk,cL Zk,ft Zb];exact hO.no Zk rfl rfl rfl
def fh.nat{g:List Ty}(h:fh g):fh (g++[.nat]):=h.app Ty.ek
def fh.hS{g:List Ty}(h:fh g):fh (g++[.hS]):=h.app Ty.jD
def se{g:List Ty}(d:fh g){t:Tm}(f:t.err=0){s:Ty}(hs:s=.nat\/s=.hS)(h:jb t g s.afo=0):dd g t s:=by
 rcases n9 f d with⟨e,he,q1,z,j⟩|⟨b,q1,i,a⟩
 ·unfold jb at h
  grind
 ·unfold jb at h;rw[q1] at h
  by_cases c:b.afo=s.afo
  ·have:b=s:=by
    rcases hs with rfl|rfl
    ·exact(og a).1 c
    ·exact(ve a).1 c
   rwa [<-this]
  ·grind
def ns{F:Fm}(hF:F.err=0)(a:F.afu 1000000000=true){f c:Nat}(b:f<=100)(d:c<=100):ee F (f:Int) (c:Int)=some (F.up f c)/\fl FU F (f:Int) (c:Int)=some (F.up f c):=by
 obtain⟨a1,a2⟩:=Fm.ey hF;exact⟨nc a1 Zb (Fm.ir _ Zb a) Zb Zb Zb Zb,lX FU F f c (by rw[dn];omega) Zb Zb Zb Zb Zb (Fm.ir _ Zb a)⟩
def tG{F:Fm}(hF:F.err=0){f c:Int}(a:0<=f)(b:0<=c):(F.up f c).err=0:=by grind[Fm.ey,Fm.err,Fm.re,Fm.jo]
def oD{F:Fm}{f:Int}:F.up f 0=F:=Fm.CV F f
def SI:k_.err=0:=Zk
def LK:(Tm.mk 7 0 .z []).err=0:=Zk
def OT:(fA v0).err=0:=Zk
def PE:(Tm.mk 8 0 .z [v1,v0]).err=0:=Zk
def Gp{L:List Fm}{p:cS}{c:cY}(h:PG L p c)(hn:c.afs.length+2<=16):∃b a,en p [.nat,.hS]=some b/\ed c [.nat,.hS]=some a/\PG L b a/\a.afs=c.afs++[.nat]++[.hS]/\a.afv=c.afv.map (Fm.up 0 2):=by
 obtain⟨b,a,d,e,f,g,i⟩:=h.JB (l:=[.nat,.hS]) (λx hx=>by
  rcases gT.1 hx with rfl|hx
  ·exact Ty.ek
  ·rw[qn.1 hx];exact Ty.jD) hn
 grind
def L_(n:Nat)(c:cY)(t:Tm)(F:Fm)(a b:Pf):c6 (n+2) c (.mk 16 0 .z [t] [F] [a,b])=iG (fU (eZ c.afs [.nat])<|cH (jY (fK c.afs [.nat]) F) λe=>if(dI e 0) then some (eA,[],e)else cH (gB c t 1) λf=>if(dI f 0) then some (eA,[],f)else cH (fj 4 []) λy=>c0 (dY n c a F y) λA g=>if(dI g 0) then some (eA,[],g)else cH (df c 1 1) λh=>if(dI h 0) then some (eA,[],h)else cH (ed c [.nat]) λi=>cH (eV i F) λj=>cH (fl FU F 1 1) λk=>cH (fj 5 [v0]) λl=>c0 (dY n j b k l) λm d=>if(dI d 0) then some (eA,[],d)else c0 (iF F t) λo p=>cH (jl t) λq=>cH (e_ q A) λr=>cH (eT m 1) λs=>cH (e_ r s) λu=>some (o,u,p)) λv w x=>some (v,w,x):=by
 rw[c6];rw[sw];rfl
def LM(n:Nat)(c:cY)(t:Tm)(F:Fm)(a b:Pf):c6 (n+2) c (.mk 17 0 .z [t] [F] [a,b])=iG (fU (eZ c.afs [.hS])<|cH (jY (fK c.afs [.hS]) F) λe=>if(dI e 0) then some (eA,[],e)else cH (gB c t 2) λf=>if(dI f 0) then some (eA,[],f)else cH (fj 7 []) λA=>c0 (dY n c a F A) λB g=>if(dI g 0) then some (eA,[],g)else cH (df c 2 1) λh=>if(dI h 0) then some (eA,[],h)else cH (ed c [.nat,.hS]) λi=>cH (fl FU F 1 1) λj=>cH (eV i j) λk=>cH (fl FU F 1 2) λl=>cH (fj 8 [v1,v0]) λm=>c0 (dY n k b l m) λo d=>if(dI d 0) then some (eA,[],d)else c0 (iF F t) λp q=>cH (jl t) λr=>cH (e_ r B) λs=>cH (eT o 2) λu=>cH (e_ s u) λv=>some (p,v,q)) λw x y=>some (w,x,y):=by
 rw[c6];rw[qJ];rfl
def Bk(L:List Fm)(t:Tm)(F:Fm)(a b:Pf)(g:List Ty)(hs:List Fm):ke L 16 0 .z [t] [F] (Pf.nt L [a,b]) g hs=fW (F.nI (g++[.nat])) (fW (jb t g 1) (pbind (tK (a.inf L g hs) F k_) λ_ m=>mX (16<g.length+1\/16<hs.length+1) 3 (pbind (tK (b.inf L (g++[.nat]) (hs.map (Fm.up 0 1)++[F])) (F.up 1 1) (fA v0)) λ_ n=>fW (gH F t).2 (.inl ((gH F t).1,(jZ t|||m)|||n/2))))):=rfl
def Bv(L:List Fm)(t:Tm)(F:Fm)(a b:Pf)(g:List Ty)(hs:List Fm):ke L 17 0 .z [t] [F] (Pf.nt L [a,b]) g hs=fW (F.nI (g++[.hS])) (fW (jb t g 2) (pbind (tK (a.inf L g hs) F (.mk 7 0 .z [])) λ_ m=>mX (16<g.length+2\/16<hs.length+1) 3 (pbind (tK (b.inf L (g++[.nat]++[.hS]) (hs.map (Fm.up 0 2)++[F.up 1 1])) (F.up 1 2) (.mk 8 0 .z [v1,v0])) λ_ n=>fW (gH F t).2 (.inl ((gH F t).1,(jZ t|||m)|||n/4))))):=rfl
def LZ(n:Nat)(L:List Fm)(t:Tm)(F:Fm)(a b:Pf)(p:cS):kW (n+1) L (.mk 16 0 .z [t] [F] [a,b]) p=cH (fi p.afs [.nat]) λs=>cH (dE FU s F) λd=>if(dI d 0) then some (⟨eA,0⟩,d)else cH (gX p.afs t 1) λe=>if(dI e 0) then some (⟨eA,0⟩,e)else c0 (dJ n L a p F k_) λu f=>if(dI f 0) then some (⟨eA,0⟩,f)else cH (dh p.eI 1 1) λg=>if(dI g 0) then some (⟨eA,0⟩,g)else cH (en p [.nat]) λh=>cH (ee F 1 (eH .i64 1 1)) λi=>cH (eB h i) λj=>cH (ee F 1 1) λk=>c0 (dJ n L b j k (fA v0)) λl c=>if(dI c 0) then some (⟨eA,0⟩,c)else c0 (gP F t) λm o=>cH (iO t) λq=>cH (ea l.fF 1) λr=>some (⟨m,vw .u32 (vw .u32 q u.fF) r⟩,o):=by
 rfl
def Mr(n:Nat)(L:List Fm)(t:Tm)(F:Fm)(a b:Pf)(p:cS):kW (n+1) L (.mk 17 0 .z [t] [F] [a,b]) p=cH (fi p.afs [.hS]) λs=>cH (dE FU s F) λd=>if(dI d 0) then some (⟨eA,0⟩,d)else cH (gX p.afs t 2) λe=>if(dI e 0) then some (⟨eA,0⟩,e)else c0 (dJ n L a p F (.mk 7 0 .z [])) λu f=>if(dI f 0) then some (⟨eA,0⟩,f)else cH (dh p.eI 2 1) λg=>if(dI g 0) then some (⟨eA,0⟩,g)else cH (en p [.nat,.hS]) λh=>cH (ee F 1 (eH .i64 2 1)) λi=>cH (eB h i) λj=>cH (ee F 1 2) λk=>c0 (dJ n L b j k (.mk 8 0 .z [v1,v0])) λl c=>if(dI c 0) then some (⟨eA,0⟩,c)else c0 (gP F t) λm o=>cH (iO t) λq=>cH (ea l.fF 2) λr=>some (⟨m,vw .u32 (vw .u32 q u.fF) r⟩,o):=by
 rfl
def D3{L:List Fm}{t:Tm}(g:t.err=0){F:Fm}(hF:F.err=0){a b:Pf}{N:Nat}(X:fI L a N)(Y:fI L b N):fI L (.mk 16 0 .z [t] [F] [a,b]) (N+5):=by
 refine fI.of λn n' hn Z p c h=>?_;have j:=h.pl.nv;have H:=h.pl.ctx;have aa:=(Fm.ey hF).2;obtain⟨t1,t2,_⟩:=mv H.nat aaV hF;obtain⟨s1,s2⟩:=has_both H j rfl g 1;rw[show n'+4=n'+2+2 from rfl,L_,Bk,LZ,h.pl.afs,lE Ty.ek Zb,cG,t1,cG,di aaV,cM,ec,t2,cG,s1,s2,cG,cG]
 by_cases o:F.nI (c.afs++[.nat])=0
 ·have r:=o;rw[<-nN (a:=_=_),<-ne_eq,<-cP] at r;rw[cJ r,cJ r,ej o];have d:=lx F (Fm.ey hF).1 _ H.nat o;have s:F.afu 1000000000=true:=d.afu _ aaV
  by_cases u:jb t c.afs 1=0
  ·have r:=u;rw[<-nN (a:=_=_),<-ne_eq,<-cP] at r;rw[cJ r,cJ r,ej u];have E:dd c.afs t .nat:=se H g (.inl rfl) u;have K:lB c.afs F k_:=⟨hF,SI,.nat,d,.zero⟩;rw[show fj 4 []=some k_ from xE,cG];rcases mj j (X (n+2) (n'+1) Zb Zb p c h) K with⟨e,z,l,m,he,i,x,y,hu⟩|⟨f,m,l,i,x,y,hu⟩
   ·rw[i,x,y,cI,cI,cL (by rw[cP];exact he),cL (by rw[cP];exact he)];exact hO.no he rfl rfl rfl
   ·rw[i,x,y,cI,cI,cJ nz,cJ nz,dA];rcases h.room (v:=1) (k:=1) Zb Zb with⟨A,B,U,r4⟩|⟨A,B,U⟩
    ·have A:dh p.eI 1 1=some 0:=A;have B:df c 1 1=some 0:=B;rw[A,B,cG,cG,cJ nz,cJ nz,eP Zb];obtain⟨p1,c1,e1,e2,e3,I,M⟩:=h.below Ty.ek U;obtain⟨p2,J,b1,b2,V,O,W⟩:=e3.with (f:=F) (by rw[I];exact⟨hF,d⟩) (by rw[M];simpa using r4)
     have l1:ee F 1 (eH .i64 1 1)=some F:=by
      rw[dF Zb Zb];have:=(ns hF s (f:=1) (c:=0) Zb Zb).1;rw[show F.up ((1:Nat):Int) ((0:Nat):Int)=F from oD] at this;exact this
     have l2:ee F 1 1=some (F.up 1 1):=(ns hF s (f:=1) (c:=1) Zb Zb).1;have l3:fl FU F 1 1=some (F.up 1 1):=(ns hF s (f:=1) (c:=1) Zb Zb).2;rw[e1,e2,cG,cG,l1,cG,b1,b2,cG,cG,l2,l3,cG,cG];rw[show fj 5 [v0]=some (fA v0)from zx Zk,cG];have hi:=Y (n+2) (n'+1) Zb Zb p2 J V;have P:J.afs.length<=16:=V.pl.nv
     have G:J.afs=c.afs++[.nat]:=by rw[O,I]
     have Q:lB J.afs (F.up 1 1) (fA v0):=⟨tG hF Zb Zb,OT,.nat,by
      rw[G];have:=d.up c.afs [.nat] [.nat] rfl
      simpa using this,by rw[G];exact .succ kK⟩
     rcases mj P hi Q with⟨e,z,R,S,he,i,x,y,C⟩|⟨f',S,R,i,x,y,C⟩
     ·rw[O,W,I,M] at i;rw[i,x,y,cI,cI,cL (by rw[cP];exact he),cL (by rw[cP];exact he)];exact hO.no he rfl rfl rfl
     ·rw[O,W,I,M] at i;obtain⟨lf,f1,f2,f3⟩:=pY j E g;have D:lB c.afs F t:=⟨hF,g,.nat,d,E⟩;obtain⟨u1,u2,u3⟩:=C.out (by have:=C.len;omega) (k:=1) Zb;have u1:eT R 1=some (pS ((1:Nat):Int) R):=u1;have u2:ea (S:Int) 1=some ((S/2^1:Nat):Int):=u2;obtain⟨q,v1,v2,v3,_⟩:=f3.union hu (by have:=f3.len;omega) (by have:=hu.len;omega);obtain⟨q',w1,w2,w3,_⟩:=v3.union u3 (by have:=v3.len;omega) (by have:=u3.len;omega);rw[i,x,y,cI,cI,cJ nz,cJ nz,dA,(D.both Zb).1,(D.both Zb).2];obtain⟨w,e,hw⟩:∃w e,gH F t=(w,e):=⟨_,_,rfl⟩;rw[hw,cI,cI,f1,f2,cG,cG,u2,v1,cG,cG,u1,cG,w1,cG];simp only[];rw[v2,w2];rcases gO F t with T|⟨ab,T⟩
      ·rw[T] at hw;obtain⟨rfl,rfl⟩:=fa hw;rw[fy Zk];exact hO.no Zk rfl rfl rfl
      ·rw[T] at hw;obtain⟨rfl,rfl⟩:=fa hw;rw[ej rfl];exact hO.yes (f:=Fm.ei 0 F t) rfl rfl rfl w3 D.put Zb
    ·have A:dh p.eI 1 1=some 3:=A;have B:df c 1 1=some 3:=B;rw[A,B,cG,cG,cL Zk,cL Zk,ft Zb];exact hO.no Zk rfl rfl rfl
  ·rw[cL (by rw[cP];exact u),cL (by rw[cP];exact u),fy u];exact hO.no u rfl rfl rfl
 ·rw[cL (by rw[cP];exact o),cL (by rw[cP];exact o),fy o];exact hO.no o rfl rfl rfl
def E1{L:List Fm}{t:Tm}(g:t.err=0){F:Fm}(hF:F.err=0){a b:Pf}{N:Nat}(X:fI L a N)(Y:fI L b N):fI L (.mk 17 0 .z [t] [F] [a,b]) (N+5):=by
 refine fI.of λn n' hn Z p c h=>?_;have o:=h.pl.nv;have H:=h.pl.ctx;have aa:=(Fm.ey hF).2;obtain⟨t1,t2,_⟩:=mv H.hS aaV hF;obtain⟨s1,s2⟩:=has_both H o rfl g 2;rw[show n'+4=n'+2+2 from rfl,LM,Bv,Mr,h.pl.afs,lE Ty.jD Zb,cG,t1,cG,di aaV,cM,ec,t2,cG,s1,s2,cG,cG]
 by_cases r:F.nI (c.afs++[.hS])=0
 ·have s:=r;rw[<-nN (a:=_=_),<-ne_eq,<-cP] at s;rw[cJ s,cJ s,ej r];have d:=lx F (Fm.ey hF).1 _ H.hS r;have i:F.afu 1000000000=true:=d.afu _ aaV
  by_cases u:jb t c.afs 2=0
  ·have s:=u;rw[<-nN (a:=_=_),<-ne_eq,<-cP] at s;rw[cJ s,cJ s,ej u];have E:dd c.afs t .hS:=se H g (.inr rfl) u;have K:lB c.afs F (.mk 7 0 .z []):=⟨hF,LK,.hS,d,.nil⟩;rw[show fj 7 []=some (.mk 7 0 .z [])from xE,cG];rcases mj o (X (n+2) (n'+1) Zb Zb p c h) K with⟨e,z,l,m,he,j,x,y,hu⟩|⟨f,m,l,j,x,y,hu⟩
   ·rw[j,x,y,cI,cI,cL (by rw[cP];exact he),cL (by rw[cP];exact he)];exact hO.no he rfl rfl rfl
   ·rw[j,x,y,cI,cI,cJ nz,cJ nz,dA];rcases h.room (v:=2) (k:=1) Zb Zb with⟨A,B,U,r4⟩|⟨A,B,U⟩
    ·have A:dh p.eI 2 1=some 0:=A;have B:df c 2 1=some 0:=B;rw[A,B,cG,cG,cJ nz,cJ nz,eP Zb];obtain⟨p1,c1,e1,e2,e3,I,M⟩:=Gp h U;obtain⟨p2,J,b1,b2,V,O,W⟩:=e3.with (f:=F.up 1 1) (by rw[I];exact⟨tG hF Zb Zb,by have:=d.up c.afs [.hS] [.nat] rfl;simpa using this⟩) (by rw[M];simpa using r4)
     have l1:ee F 1 (eH .i64 2 1)=some (F.up 1 1):=by
      rw[dF Zb Zb];exact(ns hF i (f:=1) (c:=1) Zb Zb).1
     have l2:ee F 1 2=some (F.up 1 2):=(ns hF i (f:=1) (c:=2) Zb Zb).1;have l3:fl FU F 1 1=some (F.up 1 1):=(ns hF i (f:=1) (c:=1) Zb Zb).2;have l4:fl FU F 1 2=some (F.up 1 2):=(ns hF i (f:=1) (c:=2) Zb Zb).2;rw[e1,e2,cG,cG,l1,cG,l3,cG,b1,b2,cG,cG,l2,l4,cG,cG];rw[show fj 8 [v1,v0]=some (.mk 8 0 .z [v1,v0])from mP Zk Zk,cG];have hi:=Y (n+2) (n'+1) Zb Zb p2 J V;have P:J.afs.length<=16:=V.pl.nv
     have G:J.afs=c.afs++[.nat]++[.hS]:=by rw[O,I]
     have Q:lB J.afs (F.up 1 2) (.mk 8 0 .z [v1,v0]):=⟨tG hF Zb Zb,PE,.hS,by
      rw[G];have:=d.up c.afs [.hS] [.nat,.hS] rfl
      simpa using this,by rw[G];exact .cons rP kK⟩
     rcases mj P hi Q with⟨e,z,R,S,he,j,x,y,C⟩|⟨f',S,R,j,x,y,C⟩
     ·rw[O,W,I,M] at j;rw[j,x,y,cI,cI,cL (by rw[cP];exact he),cL (by rw[cP];exact he)];exact hO.no he rfl rfl rfl
     ·rw[O,W,I,M] at j;obtain⟨lf,f1,f2,f3⟩:=pY o E g;have D:lB c.afs F t:=⟨hF,g,.hS,d,E⟩;obtain⟨u1,u2,u3⟩:=C.out (by have:=C.len;omega) (k:=2) Zb;have u1:eT R 2=some (pS ((2:Nat):Int) R):=u1;have u2:ea (S:Int) 2=some ((S/2^2:Nat):Int):=u2;obtain⟨q,v1,v2,v3,_⟩:=f3.union hu (by have:=f3.len;omega) (by have:=hu.len;omega);obtain⟨q',w1,w2,w3,_⟩:=v3.union u3 (by have:=v3.len;omega) (by have:=u3.len;omega);rw[j,x,y,cI,cI,cJ nz,cJ nz,dA,(D.both Zb).1,(D.both Zb).2];obtain⟨w,e,hw⟩:∃w e,gH F t=(w,e):=⟨_,_,rfl⟩;rw[hw,cI,cI,f1,f2,cG,cG,u2,v1,cG,cG,u1,cG,w1,cG];simp only[];rw[v2,w2];rcases gO F t with T|⟨ab,T⟩
      ·rw[T] at hw;obtain⟨rfl,rfl⟩:=fa hw;rw[fy Zk];exact hO.no Zk rfl rfl rfl
      ·rw[T] at hw;obtain⟨rfl,rfl⟩:=fa hw;rw[ej rfl];exact hO.yes (f:=Fm.ei 0 F t) rfl rfl rfl w3 D.put Zb
    ·have A:dh p.eI 2 1=some 3:=A;have B:df c 2 1=some 3:=B;rw[A,B,cG,cG,cL Zk,cL Zk,ft Zb];exact hO.no Zk rfl rfl rfl
  ·rw[cL (by rw[cP];exact u),cL (by rw[cP];exact u),fy u];exact hO.no u rfl rfl rfl
 ·rw[cL (by rw[cP];exact r),cL (by rw[cP];exact r),fy r];exact hO.no r rfl rfl rfl
end Go.eD
