/- Part of the proof of KernelAccepts, KernelDoes: layer. -/
import Derived.Test.YtobcafblgapgfaaGreatDoorL13
set_option linter.all false
namespace Go.ke
open Go Go.fB
section
variable{P:Program} {T:dx} {n B0:Nat} {ρ:Maps} {F:jY} {R:Nat->oM} {fr:Fr} {H H':cW} {a:Act} {w:World}
def WR.kill(h:WR T n B0 ρ F R fr H a w){o:Nat}{cs:List AV}(I:H[o]?=some cs)(B:lj cs=true):∃F' vs,tI F F' ρ ρ/\(∀b j,(∀o,o<H.length->ρ.G o≠b)->F' b j=F b j)/\(∀b j v,F b j=some v->F' b j=some v)/\F'.has (ρ.G o) 0 vs/\fq F' ρ.G ρ.n cs vs/\(∀c∈cs,c.eD=true)/\WR T n B0 ρ F' R fr (H.set o []) a w:=by
 have q:=(kj.1 I).1;obtain⟨ob,h1,W⟩:=h.g.jX o cs I;obtain⟨vs,ty,U,rfl,J,X,V⟩:=W.xi B
 have K:cs≠[]:=by rintro rfl;simp at B
 have hF:∀j,F (ρ.G o) j=none:=λj=>h.g.gF o j q (by rw[I];exactλe=>K (gh e))
 let F':jY:=λb j=>if b=ρ.G o then vs.toList[j]?else F b j
 have C:∀j,F' (ρ.G o) j=vs.toList[j]?:=λj=>cO rfl;have f:∀b j,b≠ρ.G o->F' b j=F b j:=λb j r=>cK r
 have mF:∀b j v,F b j=some v->F' b j=some v:=by
  intro b j v l;rw[f b j (by rintro rfl;rw[hF j] at l;cases l)];exact l
 have s:∀G n,Cc F F' G G n n:=λG n=>⟨mF,gu _,λ_ _=>rfl⟩;have u:tI F F' ρ ρ:=⟨s _ _,λ_=>gu _,λ_ _ _=>rfl,λ_=>gu _,λ_ _ _=>rfl⟩
 have z:(H.set o []).length=H.length:=aa4
 have D:fq F' ρ.G ρ.n cs vs.toList:=by
  rw[h.hn];exact(fq.m6 X).grow (s _ _)
 refine⟨F',vs.toList,u,λb j r=>f b j (λe=>r o q e.symm),mF,?_,D,V,⟨⟨?_,?_,?_,?_,?_,?_,?_⟩,h.size,h.defers,h.env.grow u,by rw[z];exact h.hn,h.lg,h.ag,?_,?_,?_,by rw[z];exact h.nE,h.lb,h.qT⟩⟩
 ·intro j v l;rw[r_,C];exact l
 ·intro b j v l
  by_cases r:b=ρ.G o
  ·subst r;rw[C] at l;rw[cell_of_row w _ j vs ty U h1];simpa using l
  ·rw[f b j r] at l;exact h.g.BF b j v l
 ·intro o' y i;rw[z]
  by_cases he:o=o'
  ·subst he;simp only[JY q] at i;cases i;exact⟨_,h1,.dead⟩
  ·rw[Dm he] at i;obtain⟨L,E,A⟩:=h.g.jX o' y i;exact⟨L,E,A.grow (s _ _)⟩
 ·rw[z];exact h.g.inj
 ·intro o' j i t;rw[z] at i
  by_cases he:o=o'
  ·subst he;simp only[JY q] at t;exact absurd rfl t
  ·rw[Dm he] at t;rw[f _ _ (λe=>he (h.g.inj o' o i q e).symm)];exact h.g.gF o' j i t
 ·intro b j r
  have M:b≠ρ.G o:=by rintro rfl;have:=nY h1;omega
  rw[f b j M];exact h.g.fresh b j r
 ·intro g x Y;rw[z];exact(h.g.yI g x Y).grow (s _ _)
 ·intro Z b j v l
  by_cases r:b=ρ.G o
  ·subst r;exact⟨vs,ty,U,h1,J,iT ((fq.sF D).mono λ_ _ _ h=>iL.p h) V⟩
  ·rw[f b j r] at l;exact h.g.row Z b j v l
 ·intro d y hd;obtain⟨E,A,N,vs',O,P,Q⟩:=h.box d y hd;exact⟨E,A,N,vs',O,P,Q.mono λ_ _ _ h=>h.grow u⟩
 ·intro k m hk b c sz hA;obtain⟨E,A,N,S,P,Q⟩:=h.tok k m hk b c sz hA;refine⟨E,A,N,S,P,λj hj=>?_⟩;rw[f]
  ·exact Q j hj
  ·rintro rfl;have:=h.nE o q;rw[A] at this;cases this
 ·intro b j v l d
  by_cases r:b=ρ.G o
  ·subst r;rw[h.nE o q];simp
  ·rw[f b j r] at l;exact h.rf b j v l d
def fg.ZI{c:Code}{Q:Exit->Fr->cW->Prop}{o d:Nat}{pre post:List AV}{x:AV}(u:H[o]?=some x.cells)(v:fr.box d=some (pre++.pQ o 0 1 1::post))(k:lj x.cells=true)(z:H.set o []=H')
  (h:fg P T n c Q {fr with box:=fN fr.box d (some (pre++.slice .hY [x]::post))} H'):fg P T n c Q fr H:=by
 subst z;intro G0 F0 n0 w0 a w hs;refine h G0 F0 n0 w0 a w ?_;obtain⟨ρ,F,R,hw,A⟩:=hs;obtain⟨F',vs,B,hF,mF,j,m,i,e⟩:=hw.kill u k;refine⟨ρ,F',R,⟨e.g,e.size,e.defers,e.env,e.hn,e.lg,e.ag,?_,e.tok,e.rf,e.nE,e.lb,e.qT⟩,?_⟩
 ·intro q r f;simp only[fN] at f
  by_cases he:q=d
  ·subst he;simp only[if_true,sy] at f;subst f;obtain⟨C,D,t,vs',s,E,I⟩:=e.box q _ v;refine⟨C,D,?_,vs',s,E,?_⟩
   ·intro c hc;simp only[qA,j0] at hc;rcases hc with hc|rfl|hc
    ·exact t c (by simp[hc])
    ·rfl
    ·exact t c (by simp[hc])
   ·have key:∀{l:List AV} {us:List Value},f_ (iL F' ρ) (l++.pQ o 0 1 1::post) us->f_ (iL F' ρ) (l++.slice .hY [x]::post) us:=by
     intro l
     induction l with
     |nil=>
      intro us hu;cases hu with
      |cons g1 g2=>
       refine .cons ?_ g2;obtain⟨rfl,g3,g4,g5⟩:=CG (.cell g1)
       have J:=fF.slice (F:=F') (G:=ρ.G) (n:=ρ.n) (tag:=.hY) (l:=[x]) (vs:=vs) (b:=ρ.G o) (o:=0) (base:=some ⟨ρ.G o,0,none⟩) (cap:=1) (sz:=x.cells.length) (by simpa using m) j (λ_=>rfl)
        aa4 (by simpa using i) aa4 g5 (.inl rfl)
       exact .p J
     |cons y l K=>
      intro us hu;cases hu with
      |cons g1 g2=>exact .cons g1 (K g2)
    exact key I
  ·simp only[cK he] at f;exact e.box q r f
 ·have:=A.Ub hF mF;simpa using this
end
section
variable{X:Cx} {k:Nat} {S:List It} {fr:Fr} {H H':cW} {c:Code}
def aav(k:Nat){o d:Nat}{pre post:List AV}{x:AV}(e:H[o]?=some x.cells)(f:fr.box d=some (pre++.pQ o 0 1 1::post))(b:lj x.cells=true)(g:H.set o []=H')
  (h:Wf X k (.c c::S) {fr with box:=fN fr.box d (some (pre++.slice .hY [x]::post))} H'):Wf X 0 (.c c::S) fr H:=
 λhm a=>fg.ZI e f b g (jI X k _ _ _ h hm a)
end
def R7{a b:Int}(h:dg a b=true):a=b:=by
 unfold dg at h;exact eq_of_beq h
def Qk{ks:List Value}{k:Value}{j:Nat}(h:mapIdx ks k=some j):j<ks.length:=by
 unfold mapIdx at h;exact(List.findIdx?_eq_some_iff_getElem.1 h).1
section
variable{P:Program} {H:cW} {o:Nat} {k:Int} {t kt e:TypeId} {ks:List Value} {xs:List AV} {z:AV}
def Qa(hu:P.underlying t=some (.map kt e))(b:P.underlying kt=some (.int .i64))(c:L8 P e=some z)(d:H[o]?=some [.td ks xs])(h1:ks.all (Fq (.int .i64))=true)(f:xs.length=ks.length):tT P H t (.mU o) (.sc (.int .i64 k)) false=some (match mapIdx ks (.int .i64 k)with|some j=>xs.getD j .undef|none=>z):=by
 unfold tT;simp only[hu,b,d,c];rw[cO ⟨rfl,h1⟩];cases hi:mapIdx ks (.int .i64 k)with
 |none=>rfl|some j=>
  have a:=Qk hi;rw[<-f] at a;simp[oO a]
def th.new{fr:Fr}{K:Fr->cW->Prop}{v:AV}(hu:P.underlying t=some (.map kt e))(a:P.underlying kt=some (.int .i64))(b:H[o]?=some [.td ks xs])(h1:ks.all (Fq (.int .i64))=true)(hn:mapIdx ks (.int .i64 k)=none)
  (c:K fr (dH H o [.td (ks++[.int .i64 k]) (xs++[v.norm])])):rX P t (.mU o) (.sc (.int .i64 k)) v K fr H:=by
 unfold rX;simp only[hu,a,b];refine⟨rfl,h1,?_⟩;rw[DB,hn];exact c
def th.wY{fr:Fr}{K:Fr->cW->Prop}{v:AV}(hu:P.underlying t=some (.map kt e))(a:P.underlying kt=some (.int .i64))(h1:ks.all (Fq (.int .i64))=true)(hn:mapIdx ks (.int .i64 k)=none)
  (b:K fr (H++[[.td (ks++[.int .i64 k]) (xs++[v.norm])]])):rX P t (.mU H.length) (.sc (.int .i64 k)) v K fr (H++[[.td ks xs]]):=by
 refine th.new hu a (ks:=ks) (xs:=xs) aa4 h1 hn ?_;simp only[dH];simpa using b
end
section
variable{P:Program} {t:TypeId} {k:IntKind} {a:Int}
def Ja{α:Type}{f:α->List AV}{sz:Nat}(h:∀x,(f x).length=sz):∀(L:List α) (i:Nat),((L.flatMap f).drop (i*sz)).take sz=match L[i]?with|some x=>f x|none=>[]
 |[],i=>by simp|x::L,0=>by simp[Tv,h x,PU]|x::L,i+1=>by
  have a:((x::L).flatMap f).drop ((i+1)*sz)=(L.flatMap f).drop (i*sz):=by
   rw[vP,show(i+1)*sz=(f x).length+i*sz by rw[h,W_,WQ],<-aai,List.drop_left]
  rw[a,Ja h L i];rfl
def I3{α:Type}{f:α->List AV}{sz:Nat}(h:∀x,(f x).length=sz):∀(L:List α),(L.flatMap f).length=L.length*sz
 |[]=>by simp|x::L=>by rw[vP,oJ,h,I3 h L,kN,W_,WQ]
def EO{α:Type}{f:α->AV}{g:α->List AV}{L:List α}{n e sz:Nat}(hu:P.underlying t=some (.array n e))(j:eO P e=some (true,sz))(hg:∀x,g x=(f x).cells)(m:∀x,∃cs,f x=.agg cs)(c:∀x,(f x).cells.length=sz)(hn:L.length=n):fl P t (.lG (.agg (L.flatMap g))) (.sc (.int k a))=(de L a).map λx=>.lG (f x):=by
 have b:∀x,(g x).length=sz:=λx=>by rw[hg];exact c x
 unfold fl de;simp only[hu,j];have d:(AV.agg (L.flatMap g)).cells=L.flatMap g:=rfl;rw[d];unfold lH;simp only[j]
 by_cases h:0<=a
 ·rw[cO h]
  by_cases l:a<n
  ·rw[cO ⟨h,l⟩]
   have hi:a.toNat<L.length:=VW
   rw[cO (by rw[I3 b,<-W_];exact CP _ hi),Ja b,oO hi];obtain⟨cs,o⟩:=m L[a.toNat];simp only[Px,hg,o,AV.cells]
  ·rw[cK (λi=>l i.2),TO VW];rfl
 ·rw[cK h,cK (λi=>h i.1)];rfl
def DA{n e sz b g o j:Nat}{ag:Bool}{i:Int}(hu:P.underlying t=some (.array n e))(a:eO P e=some (ag,sz))(hi:dg i (j:Int)=true)(c:j<n):fl P t (.fC b g o) (.sc (.int .i64 i))=some (.fC b g (o+j*sz)):=by
 rw[R7 hi];unfold fl;simp only[hu,a];rw[cO ⟨VW,VW⟩];simp
end
end Go.ke
