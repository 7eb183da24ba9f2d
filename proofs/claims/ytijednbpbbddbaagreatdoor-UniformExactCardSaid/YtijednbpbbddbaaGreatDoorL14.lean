/- Part of the proof of UniformExact, UniformAccepted: layer. -/
import Derived.Test.YtijednbpbbddbaaGreatDoorL13
set_option linter.all false
namespace Go.ns
open Go Go.ek
section
variable{P:Program} {T:ec} {n B0:Nat} {ρ:Maps} {F:nc} {R:Nat->si} {fr:Fr} {H H':dd} {a:Act} {w:World}
def WR.kill(h:WR T n B0 ρ F R fr H a w){o:Nat}{cs:List AV}(J:H[o]?=some cs)(B:w6 cs=true):∃F' vs,zc F F' ρ ρ/\(∀b j,(∀o,o<H.length->ρ.G o≠b)->F' b j=F b j)/\(∀b j v,F b j=some v->F' b j=some v)/\F'.has (ρ.G o) 0 vs/\iI F' ρ.G ρ.n cs vs/\(∀c∈cs,c.gw=true)/\WR T n B0 ρ F' R fr (H.set o []) a w:=by
 have q:=(qb.1 J).1;obtain⟨ob,I,X⟩:=h.g.oB o cs J;obtain⟨vs,ty,V,rfl,K,Y,W⟩:=X.H6 B
 have L:cs≠[]:=by rintro rfl;simp at B
 have hF:∀j,F (ρ.G o) j=none:=λj=>h.g.gF o j q (by rw[J];exactλe=>L (gB e))
 let F':nc:=λb j=>if b=ρ.G o then vs.toList[j]?else F b j
 have C:∀j,F' (ρ.G o) j=vs.toList[j]?:=λj=>cK rfl;have f:∀b j,b≠ρ.G o->F' b j=F b j:=λb j r=>cI r
 have mF:∀b j v,F b j=some v->F' b j=some v:=by
  intro b j v l;rw[f b j (by rintro rfl;rw[hF j] at l;cases l)];exact l
 have s:∀G n,Kk F F' G G n n:=λG n=>⟨mF,ig _,λ_ _=>rfl⟩;have u:zc F F' ρ ρ:=⟨s _ _,λ_=>ig _,λ_ _ _=>rfl,λ_=>ig _,λ_ _ _=>rfl⟩
 have z:(H.set o []).length=H.length:=aaB
 have D:iI F' ρ.G ρ.n cs vs.toList:=by
  rw[h.hn];exact(iI.so Y).grow (s _ _)
 refine⟨F',vs.toList,u,λb j r=>f b j (λe=>r o q e.symm),mF,?_,D,W,⟨⟨?_,?_,?_,?_,?_,?_,?_⟩,h.size,h.defers,h.env.grow u,by rw[z];exact h.hn,h.lg,h.ag,?_,?_,?_,by rw[z];exact h.qa,h.ny,h.tU⟩⟩
 ·intro j v l;rw[tG,C];exact l
 ·intro b j v l
  by_cases r:b=ρ.G o
  ·subst r;rw[C] at l;rw[cell_of_row w _ j vs ty V I];simpa using l
  ·rw[f b j r] at l;exact h.g.JO b j v l
 ·intro o' y i;rw[z]
  by_cases he:o=o'
  ·subst he;simp only[Yi q] at i;cases i;exact⟨_,I,.dead⟩
  ·rw[Lx he] at i;obtain⟨M,E,A⟩:=h.g.oB o' y i;exact⟨M,E,A.grow (s _ _)⟩
 ·rw[z];exact h.g.inj
 ·intro o' j i t;rw[z] at i
  by_cases he:o=o'
  ·subst he;simp only[Yi q] at t;exact absurd rfl t
  ·rw[Lx he] at t;rw[f _ _ (λe=>he (h.g.inj o' o i q e).symm)];exact h.g.gF o' j i t
 ·intro b j r
  have N:b≠ρ.G o:=by rintro rfl;have:=s8 I;omega
  rw[f b j N];exact h.g.fresh b j r
 ·intro g x Z;rw[z];exact(h.g.F9 g x Z).grow (s _ _)
 ·intro hT b j v l
  by_cases r:b=ρ.G o
  ·subst r;exact⟨vs,ty,V,I,K,lr ((iI.yS D).mono λ_ _ _ h=>lH.p h) W⟩
  ·rw[f b j r] at l;exact h.g.row hT b j v l
 ·intro d y hd;obtain⟨E,A,O,vs',P,Q,S⟩:=h.box d y hd;exact⟨E,A,O,vs',P,Q,S.mono λ_ _ _ h=>h.grow u⟩
 ·intro k m hk b c sz hA;obtain⟨E,A,O,U,Q,S⟩:=h.tok k m hk b c sz hA;refine⟨E,A,O,U,Q,λj hj=>?_⟩;rw[f]
  ·exact S j hj
  ·rintro rfl;have:=h.qa o q;rw[A] at this;cases this
 ·intro b j v l d
  by_cases r:b=ρ.G o
  ·subst r;rw[h.qa o q];simp
  ·rw[f b j r] at l;exact h.s5 b j v l d
def gM.aee{c:Code}{Q:Exit->Fr->dd->Prop}{o d:Nat}{pre post:List AV}{x:AV}(u:H[o]?=some x.cells)(v:fr.box d=some (pre++.xx o 0 1 1::post))(k:w6 x.cells=true)(z:H.set o []=H')
  (h:gM P T n c Q {fr with box:=ia fr.box d (some (pre++.slice .jU [x]::post))} H'):gM P T n c Q fr H:=by
 subst z;intro G0 F0 n0 w0 a w hs;refine h G0 F0 n0 w0 a w ?_;obtain⟨ρ,F,R,hw,A⟩:=hs;obtain⟨F',vs,B,hF,mF,j,m,i,e⟩:=hw.kill u k;refine⟨ρ,F',R,⟨e.g,e.size,e.defers,e.env,e.hn,e.lg,e.ag,?_,e.tok,e.s5,e.qa,e.ny,e.tU⟩,?_⟩
 ·intro q r f;simp only[ia] at f
  by_cases he:q=d
  ·subst he;simp only[if_true,wh] at f;subst f;obtain⟨C,D,t,vs',s,E,I⟩:=e.box q _ v;refine⟨C,D,?_,vs',s,E,?_⟩
   ·intro c hc;simp only[rS,iL] at hc;rcases hc with hc|rfl|hc
    ·exact t c (by simp[hc])
    ·rfl
    ·exact t c (by simp[hc])
   ·have key:∀{l:List AV} {us:List Value},iU (lH F' ρ) (l++.xx o 0 1 1::post) us->iU (lH F' ρ) (l++.slice .jU [x]::post) us:=by
     intro l
     induction l with
     |nil=>
      intro us hu;cases hu with
      |cons g1 g2=>
       refine .cons ?_ g2;obtain⟨rfl,g3,g4,g5⟩:=HZ (.cell g1)
       have J:=ic.slice (F:=F') (G:=ρ.G) (n:=ρ.n) (tag:=.jU) (l:=[x]) (vs:=vs) (b:=ρ.G o) (o:=0) (base:=some ⟨ρ.G o,0,none⟩) (cap:=1) (sz:=x.cells.length) (by simpa using m) j (λ_=>rfl)
        aaB (by simpa using i) aaB g5 (.inl rfl)
       exact .p J
     |cons y l K=>
      intro us hu;cases hu with
      |cons g1 g2=>exact .cons g1 (K g2)
    exact key I
  ·simp only[cI he] at f;exact e.box q r f
 ·have:=A.Yx hF mF;simpa using this
end
section
variable{X:Cx} {k:Nat} {S:List It} {fr:Fr} {H H':dd} {c:Code}
def aeO(k:Nat){o d:Nat}{pre post:List AV}{x:AV}(e:H[o]?=some x.cells)(f:fr.box d=some (pre++.xx o 0 1 1::post))(b:w6 x.cells=true)(g:H.set o []=H')
  (h:Wf X k (.c c::S) {fr with box:=ia fr.box d (some (pre++.slice .jU [x]::post))} H'):Wf X 0 (.c c::S) fr H:=
 λhm a=>gM.aee e f b g (ou X k _ _ _ h hm a)
end
def W8{a b:Int}(h:dm a b=true):a=b:=by
 unfold dm at h;exact eq_of_beq h
def UN{ks:List Value}{k:Value}{j:Nat}(h:mapIdx ks k=some j):j<ks.length:=by
 unfold mapIdx at h;exact(List.findIdx?_eq_some_iff_getElem.1 h).1
section
variable{P:Program} {H:dd} {o:Nat} {k:Int} {t kt e:TypeId} {ks:List Value} {xs:List AV} {z:AV}
def Vq(hu:P.underlying t=some (.map kt e))(b:P.underlying kt=some (.int .i64))(c:Rx P e=some z)(d:H[o]?=some [.yM ks xs])(f:ks.all (Ms (.int .i64))=true)(g:xs.length=ks.length):zo P H t (.qZ o) (.sc (.int .i64 k)) false=some (match mapIdx ks (.int .i64 k)with|some j=>xs.getD j .undef|none=>z):=by
 unfold zo;simp only[hu,b,d,c];rw[cK ⟨rfl,f⟩];cases hi:mapIdx ks (.int .i64 k)with
 |none=>rfl|some j=>
  have a:=UN hi;rw[<-g] at a;simp[nw a]
def yo.new{fr:Fr}{K:Fr->dd->Prop}{v:AV}(hu:P.underlying t=some (.map kt e))(a:P.underlying kt=some (.int .i64))(b:H[o]?=some [.yM ks xs])(c:ks.all (Ms (.int .i64))=true)(hn:mapIdx ks (.int .i64 k)=none)
  (d:K fr (fH H o [.yM (ks++[.int .i64 k]) (xs++[v.norm])])):wE P t (.qZ o) (.sc (.int .i64 k)) v K fr H:=by
 unfold wE;simp only[hu,a,b];refine⟨rfl,c,?_⟩;rw[Jy,hn];exact d
def yo.Cr{fr:Fr}{K:Fr->dd->Prop}{v:AV}(hu:P.underlying t=some (.map kt e))(a:P.underlying kt=some (.int .i64))(b:ks.all (Ms (.int .i64))=true)(hn:mapIdx ks (.int .i64 k)=none)
  (c:K fr (H++[[.yM (ks++[.int .i64 k]) (xs++[v.norm])]])):wE P t (.qZ H.length) (.sc (.int .i64 k)) v K fr (H++[[.yM ks xs]]):=by
 refine yo.new hu a (ks:=ks) (xs:=xs) aaB b hn ?_;simp only[fH];simpa using c
end
section
variable{P:Program} {t:TypeId} {k:IntKind} {a:Int}
def O1{α:Type}{f:α->List AV}{sz:Nat}(h:∀x,(f x).length=sz):∀(L:List α) (i:Nat),((L.flatMap f).drop (i*sz)).take sz=match L[i]?with|some x=>f x|none=>[]
 |[],i=>by simp|x::L,0=>by simp[abV,h x,Y']|x::L,i+1=>by
  have a:((x::L).flatMap f).drop ((i+1)*sz)=(L.flatMap f).drop (i*sz):=by
   rw[Es,show(i+1)*sz=(f x).length+i*sz by rw[h,SU,abJ],<-List.drop_drop,List.drop_left]
  rw[a,O1 h L i];rfl
def OK{α:Type}{f:α->List AV}{sz:Nat}(h:∀x,(f x).length=sz):∀(L:List α),(L.flatMap f).length=L.length*sz
 |[]=>by simp|x::L=>by rw[Es,qI,h,OK h L,hW,SU,abJ]
def LA{α:Type}{f:α->AV}{g:α->List AV}{L:List α}{n e sz:Nat}(hu:P.underlying t=some (.array n e))(j:fw P e=some (true,sz))(hg:∀x,g x=(f x).cells)(m:∀x,∃cs,f x=.agg cs)(c:∀x,(f x).cells.length=sz)(hn:L.length=n):gO P t (.nt (.agg (L.flatMap g))) (.sc (.int k a))=(df L a).map λx=>.nt (f x):=by
 have b:∀x,(g x).length=sz:=λx=>by rw[hg];exact c x
 unfold gO df;simp only[hu,j];have d:(AV.agg (L.flatMap g)).cells=L.flatMap g:=rfl;rw[d];unfold p0;simp only[j]
 by_cases h:0<=a
 ·rw[cK h]
  by_cases l:a<n
  ·rw[cK ⟨h,l⟩]
   have hi:a.toNat<L.length:=VW
   rw[cK (by rw[OK b,<-SU];exact Lt _ hi),O1 b,nw hi];obtain⟨cs,o⟩:=m L[a.toNat];simp only[UW,hg,o,AV.cells]
  ·rw[cI (λi=>l i.2),UL VW];rfl
 ·rw[cI h,cI (λi=>h i.1)];rfl
def J6{n e sz b g o j:Nat}{ag:Bool}{i:Int}(hu:P.underlying t=some (.array n e))(a:fw P e=some (ag,sz))(hi:dm i (j:Int)=true)(c:j<n):gO P t (.jo b g o) (.sc (.int .i64 i))=some (.jo b g (o+j*sz)):=by
 rw[W8 hi];unfold gO;simp only[hu,a];rw[cK ⟨VW,VW⟩];simp
end
end Go.ns
