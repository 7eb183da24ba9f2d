/- Part of the proof of TheoryNeeds: layer. -/
import Derived.Test.YtjgjcpnoaeljkaaGreatDoorNL13
set_option linter.all false
namespace Go.kC
open Go Go.eU
section
variable{P:Program} {T:dt} {n B0:Nat} {ρ:Maps} {F:jo} {R:Nat->nb} {fr:Fr} {H H':cZ} {a:Act} {w:World}
def WR.kill(h:WR T n B0 ρ F R fr H a w){o:Nat}{cs:List AV}(L:H[o]?=some cs)(C:qK cs=true):∃F' vs,tk F F' ρ ρ/\(∀b j,(∀o,o<H.length->ρ.G o≠b)->F' b j=F b j)/\(∀b j v,F b j=some v->F' b j=some v)/\F'.has (ρ.G o) 0 vs/\fG F' ρ.G ρ.n cs vs/\(∀c∈cs,c.fJ=true)/\WR T n B0 ρ F' R fr (H.set o []) a w:=by
 have q:=(mI.1 L).1;obtain⟨ob,K,Z⟩:=h.g.jU o cs L;obtain⟨vs,ty,X,rfl,M,h3,Y⟩:=Z.BZ C
 have N:cs≠[]:=by rintro rfl;simp at C
 have hF:∀j,F (ρ.G o) j=none:=λj=>h.g.gF o j q (by rw[L];exactλe=>N (fQ e))
 let F':jo:=λb j=>if b=ρ.G o then vs.toList[j]?else F b j
 have D:∀j,F' (ρ.G o) j=vs.toList[j]?:=λj=>cS rfl;have f:∀b j,b≠ρ.G o->F' b j=F b j:=λb j r=>cO r
 have mF:∀b j v,F b j=some v->F' b j=some v:=by
  intro b j v l;rw[f b j (by rintro rfl;rw[hF j] at l;cases l)];exact l
 have s:∀G n,Grow F F' G G n n:=λG n=>⟨mF,gO _,λ_ _=>rfl⟩;have u:tk F F' ρ ρ:=⟨s _ _,λ_=>gO _,λ_ _ _=>rfl,λ_=>gO _,λ_ _ _=>rfl⟩
 have A:(H.set o []).length=H.length:=aaL
 have I:fG F' ρ.G ρ.n cs vs.toList:=by
  rw[h.hn];exact(fG.ox h3).grow (s _ _)
 refine⟨F',vs.toList,u,λb j r=>f b j (λe=>r o q e.symm),mF,?_,I,Y,⟨⟨?_,?_,?_,?_,?_,?_,?_⟩,h.size,h.defers,h.env.grow u,by rw[A];exact h.hn,h.lg,h.ag,?_,?_,?_,by rw[A];exact h.na,h.k4,h.qi⟩⟩
 .intro j v l;rw[tH,D];exact l
 .intro b j v l
  by_cases r:b=ρ.G o
  .subst r;rw[D] at l;rw[cell_of_row w _ j vs ty X K];simpa using l
  .rw[f b j r] at l;exact h.g.Cp b j v l
 .intro o' y i;rw[A]
  by_cases he:o=o'
  .subst he;simp only[acT q] at i;cases i;exact⟨_,K,.dead⟩
  .rw[J0 he] at i;obtain⟨O,J,B⟩:=h.g.jU o' y i;exact⟨O,J,B.grow (s _ _)⟩
 .rw[A];exact h.g.inj
 .intro o' j i t;rw[A] at i
  by_cases he:o=o'
  .subst he;simp only[acT q] at t;exact absurd rfl t
  .rw[J0 he] at t;rw[f _ _ (λe=>he (h.g.inj o' o i q e).symm)];exact h.g.gF o' j i t
 .intro b j r
  have P:b≠ρ.G o:=by rintro rfl;have:=oz K;omega
  rw[f b j P];exact h.g.fresh b j r
 .intro g x hx;rw[A];exact(h.g.xX g x hx).grow (s _ _)
 .intro hT b j v l
  by_cases r:b=ρ.G o
  .subst r;exact⟨vs,ty,X,K,M,iO ((fG.sW I).mono λ_ _ _ h=>iF.p h) Y⟩
  .rw[f b j r] at l;exact h.g.row hT b j v l
 .intro d y hd;obtain⟨J,B,Q,vs',S,U,V⟩:=h.box d y hd;exact⟨J,B,Q,vs',S,U,V.mono λ_ _ _ h=>h.grow u⟩
 .intro k m hk b c sz hA;obtain⟨J,B,Q,W,U,V⟩:=h.tok k m hk b c sz hA;refine⟨J,B,Q,W,U,λj hj=>?_⟩;rw[f]
  .exact V j hj
  .rintro rfl;have:=h.na o q;rw[B] at this;cases this
 .intro b j v l d
  by_cases r:b=ρ.G o
  .subst r;rw[h.na o q];simp
  .rw[f b j r] at l;exact h.qF b j v l d
def fa.agd{c:Code}{Q:Exit->Fr->cZ->Prop}{o d:Nat}{pre post:List AV}{x:AV}(A:H[o]?=some x.cells)(B:fr.box d=some (pre++.qU o 0 1 1::post))(q:qK x.cells=true)(C:H.set o []=H')
  (h:fa P T n c Q {fr with box:=fO fr.box d (some (pre++.slice .iw [x]::post))} H'):fa P T n c Q fr H:=by
 subst C;intro G0 F0 n0 w0 a w hs;refine h G0 F0 n0 w0 a w ?_;obtain⟨ρ,F,R,hw,D⟩:=hs;obtain⟨F',vs,I,hF,mF,k,r,j,f⟩:=hw.kill A q;refine⟨ρ,F',R,⟨f.g,f.size,f.defers,f.env,f.hn,f.lg,f.ag,?_,f.tok,f.qF,f.na,f.k4,f.qi⟩,?_⟩
 .intro s t i;simp only[fO] at i
  by_cases he:s=d
  .subst he;simp only[if_true,uV] at i;subst i;obtain⟨J,K,v,vs',u,L,M⟩:=f.box s _ B;refine⟨J,K,?_,vs',u,L,?_⟩
   .intro c hc;simp only[rA,jr] at hc;rcases hc with hc|rfl|hc
    .exact v c (by simp[hc])
    .rfl
    .exact v c (by simp[hc])
   .have key:∀{l:List AV} {us:List Value},fU (iF F' ρ) (l++.qU o 0 1 1::post) us->fU (iF F' ρ) (l++.slice .iw [x]::post) us:=by
     intro l
     induction l with
     |nil=>
      intro us hu;cases hu with
      |cons g1 g2=>
       refine .cons ?_ g2;obtain⟨rfl,g3,g4,g5⟩:=BY (.cell g1)
       have N:=fE.slice (F:=F') (G:=ρ.G) (n:=ρ.n) (tag:=.iw) (l:=[x]) (vs:=vs) (b:=ρ.G o) (o:=0) (base:=some ⟨ρ.G o,0,none⟩) (cap:=1) (sz:=x.cells.length) (by simpa using r) k (λ_=>rfl)
        aaL (by simpa using j) aaL g5 (.inl rfl)
       exact .p N
     |cons y l ih=>
      intro us hu;cases hu with
      |cons g1 g2=>exact .cons g1 (ih g2)
    exact key M
  .simp only[cO he] at i;exact f.box s t i
 .have:=D.Y3 hF mF;simpa using this
end
section
variable{X:Cx} {k:Nat} {S:List It} {fr:Fr} {H H':cZ} {c:Code}
def aeK(k:Nat){o d:Nat}{pre post:List AV}{x:AV}(f:H[o]?=some x.cells)(i:fr.box d=some (pre++.qU o 0 1 1::post))(b:qK x.cells=true)(j:H.set o []=H')
  (h:Wf X k (.c c::S) {fr with box:=fO fr.box d (some (pre++.slice .iw [x]::post))} H'):Wf X 0 (.c c::S) fr H:=
 λhm a=>fa.agd f i b j (kx X k _ _ _ h hm a)
end
def Ug{a b:Int}(h:dj a b=true):a=b:=by grind[dj]
theorem SP{ks:List Value}{k:Value}{j:Nat}(h:mapIdx ks k=some j):j<ks.length:=by
 exact(List.findIdx?_eq_some_iff_getElem.1 h).1
section
variable{P:Program} {H:cZ} {o:Nat} {k:Int} {t kt e:TypeId} {ks:List Value} {xs:List AV} {z:AV}
def R5(hu:P.underlying t=some (.map kt e))(a:P.underlying kt=some (.int .i64))(b:GD P e=some z)(c:H[o]?=some [.rG ks xs])(d:ks.all (GH (.int .i64))=true)(f:xs.length=ks.length):p6 P H t (.iR o) (.sc (.int .i64 k)) false=some (match mapIdx ks (.int .i64 k)with|some j=>xs.getD j .undef|none=>z):=by
 unfold p6;simp only[hu,a,c,b];rw[cS ⟨rfl,d⟩];cases hi:mapIdx ks (.int .i64 k)with
 |none=>rfl|some j=>grind[SP]
theorem ry.new{fr:Fr}{K:Fr->cZ->Prop}{v:AV}(hu:P.underlying t=some (.map kt e))(a:P.underlying kt=some (.int .i64))(b:H[o]?=some [.rG ks xs])(c:ks.all (GH (.int .i64))=true)(hn:mapIdx ks (.int .i64 k)=none)
  (d:K fr (eO H o [.rG (ks++[.int .i64 k]) (xs++[v.norm])])):rq P t (.iR o) (.sc (.int .i64 k)) v K fr H:=by
 unfold rq;simp only[hu,a,b];refine⟨rfl,c,?_⟩;rw[Df,hn];exact d
def ry.vP{fr:Fr}{K:Fr->cZ->Prop}{v:AV}(hu:P.underlying t=some (.map kt e))(a:P.underlying kt=some (.int .i64))(b:ks.all (GH (.int .i64))=true)(hn:mapIdx ks (.int .i64 k)=none)
 (c:K fr (H++[[.rG (ks++[.int .i64 k]) (xs++[v.norm])]])):rq P t (.iR H.length) (.sc (.int .i64 k)) v K fr (H++[[.rG ks xs]]):=by grind[ry.new,eO]
end
section
variable{P:Program} {t:TypeId} {k:IntKind} {a:Int}
def JV{α:Type}{f:α->List AV}{sz:Nat}(h:∀x,(f x).length=sz):∀(L:List α) (i:Nat),((L.flatMap f).drop (i*sz)).take sz=match L[i]?with|some x=>f x|none=>[]
 |[],i=>by simp|x::L,0=>by grind|x::L,i+1=>by
  have a:((x::L).flatMap f).drop ((i+1)*sz)=(L.flatMap f).drop (i*sz):=by
   rw[Fp,show(i+1)*sz=(f x).length+i*sz by rw[h,Rq,Nat.add_comm],<-List.drop_drop,List.drop_left]
  rw[a,JV h L i];rfl
def JQ{α:Type}{f:α->List AV}{sz:Nat}(h:∀x,(f x).length=sz):∀(L:List α),(L.flatMap f).length=L.length*sz
 |[]=>by simp|x::L=>by rw[Fp,rF,h,JQ h L,kY,Rq,Nat.add_comm]
def EA{α:Type}{f:α->AV}{g:α->List AV}{L:List α}{n e sz:Nat}(hu:P.underlying t=some (.array n e))(i:ew P e=some (true,sz))(hg:∀x,g x=(f x).cells)(j:∀x,∃cs,f x=.agg cs)(c:∀x,(f x).cells.length=sz)(hn:L.length=n):fp P t (.lx (.agg (L.flatMap g))) (.sc (.int k a))=(dg L a).map λx=>.lx (f x):=by
 have b:∀x,(g x).length=sz:=λx=>by rw[hg];exact c x
 unfold fp dg;simp only[hu,i];have d:(AV.agg (L.flatMap g)).cells=L.flatMap g:=rfl;rw[d];unfold lB;simp only[i]
 by_cases h:0<=a
 .rw[cS h]
  by_cases l:a<n
  .rw[cS ⟨h,l⟩]
   have hi:a.toNat<L.length:=VW
   rw[cS (by rw[JQ b,<-Rq];exact GM _ hi),JV b,l5 hi];obtain⟨cs,o⟩:=j L[a.toNat];simp only[X3,hg,o,AV.cells]
  .grind
 .rw[cO h,cO (λq=>h q.1)];rfl
def Dq{n e sz b g o j:Nat}{ag:Bool}{i:Int}(hu:P.underlying t=some (.array n e))(a:ew P e=some (ag,sz))(hi:dj i (j:Int)=true)(c:j<n):fp P t (.gx b g o) (.sc (.int .i64 i))=some (.gx b g (o+j*sz)):=by
 rw[Ug hi];unfold fp
 grind
end
end Go.kC
