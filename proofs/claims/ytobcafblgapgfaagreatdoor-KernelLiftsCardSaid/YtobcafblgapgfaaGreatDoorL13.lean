/- Part of the proof of KernelLifts, KernelPuts, KernelCuts: layer. -/
import Derived.Test.YtobcafblgapgfaaGreatDoorL12
set_option linter.all false
namespace Go.tq
open Go Go.eD
section
variable{P:Program} {T:fx} {n B0:Nat} {ρ:Maps} {F:rv} {R:Nat->x0} {fr:Fr} {H H':dM} {a:Act} {w:World}
def WR.kill(h:WR T n B0 ρ F R fr H a w){o:Nat}{cs:List AV}(J:H[o]?=some cs)(B:Fe cs=true):∃F' vs,Dr F F' ρ ρ/\(∀b j,(∀o,o<H.length->ρ.G o≠b)->F' b j=F b j)/\(∀b j v,F b j=some v->F' b j=some v)/\F'.has (ρ.G o) 0 vs/\kR F' ρ.G ρ.n cs vs/\(∀c∈cs,c.k7=true)/\WR T n B0 ρ F' R fr (H.set o []) a w:=by
 have q:=(qR.1 J).1;obtain⟨ob,I,X⟩:=h.g.sN o cs J;obtain⟨vs,ty,V,rfl,K,Y,W⟩:=X.Oh B
 have L:cs≠[]:=by rintro rfl;simp at B
 have hF:∀j,F (ρ.G o) j=none:=λj=>h.g.gF o j q (by rw[J];exactλe=>L (hZ e))
 let F':rv:=λb j=>if b=ρ.G o then vs.toList[j]?else F b j
 have C:∀j,F' (ρ.G o) j=vs.toList[j]?:=λj=>cL rfl;have f:∀b j,b≠ρ.G o->F' b j=F b j:=λb j r=>cJ r
 have mF:∀b j v,F b j=some v->F' b j=some v:=by
  intro b j v l;rw[f b j (by rintro rfl;rw[hF j] at l;cases l)];exact l
 have s:∀G n,M4 F F' G G n n:=λG n=>⟨mF,jM _,λ_ _=>rfl⟩;have u:Dr F F' ρ ρ:=⟨s _ _,λ_=>jM _,λ_ _ _=>rfl,λ_=>jM _,λ_ _ _=>rfl⟩
 have z:(H.set o []).length=H.length:=aae
 have D:kR F' ρ.G ρ.n cs vs.toList:=by
  rw[h.hn];exact(kR.xU Y).grow (s _ _)
 refine⟨F',vs.toList,u,λb j r=>f b j (λe=>r o q e.symm),mF,?_,D,W,⟨⟨?_,?_,?_,?_,?_,?_,?_⟩,h.size,h.defers,h.env.grow u,by rw[z];exact h.hn,h.lg,h.ag,?_,?_,?_,by rw[z];exact h.vQ,h.tf,h.Ag⟩⟩
 ·intro j v l;rw[sZ,C];exact l
 ·intro b j v l
  by_cases r:b=ρ.G o
  ·subst r;rw[C] at l;rw[cell_of_row w _ j vs ty V I];simpa using l
  ·rw[f b j r] at l;exact h.g.NK b j v l
 ·intro o' y i;rw[z]
  by_cases he:o=o'
  ·subst he;simp only[ZF q] at i;cases i;exact⟨_,I,.dead⟩
  ·rw[Pp he] at i;obtain⟨M,E,A⟩:=h.g.sN o' y i;exact⟨M,E,A.grow (s _ _)⟩
 ·rw[z];exact h.g.inj
 ·intro o' j i t;rw[z] at i
  by_cases he:o=o'
  ·subst he;simp only[ZF q] at t;exact absurd rfl t
  ·rw[Pp he] at t;rw[f _ _ (λe=>he (h.g.inj o' o i q e).symm)];exact h.g.gF o' j i t
 ·intro b j r
  have N:b≠ρ.G o:=by rintro rfl;have:=xR I;omega
  rw[f b j N];exact h.g.fresh b j r
 ·intro g x Z;rw[z];exact(h.g.J4 g x Z).grow (s _ _)
 ·intro hT b j v l
  by_cases r:b=ρ.G o
  ·subst r;exact⟨vs,ty,V,I,K,qd ((kR.DL D).mono λ_ _ _ h=>pj.p h) W⟩
  ·rw[f b j r] at l;exact h.g.row hT b j v l
 ·intro d y hd;obtain⟨E,A,O,vs',P,Q,S⟩:=h.box d y hd;exact⟨E,A,O,vs',P,Q,S.mono λ_ _ _ h=>h.grow u⟩
 ·intro k m hk b c sz hA;obtain⟨E,A,O,U,Q,S⟩:=h.tok k m hk b c sz hA;refine⟨E,A,O,U,Q,λj hj=>?_⟩;rw[f]
  ·exact S j hj
  ·rintro rfl;have:=h.vQ o q;rw[A] at this;cases this
 ·intro b j v l d
  by_cases r:b=ρ.G o
  ·subst r;rw[h.vQ o q];simp
  ·rw[f b j r] at l;exact h.AG b j v l d
def jF.acz{c:Code}{Q:Exit->Fr->dM->Prop}{o d:Nat}{pre post:List AV}{x:AV}(u:H[o]?=some x.cells)(v:fr.box d=some (pre++.Iv o 0 1 1::post))(k:Fe x.cells=true)(z:H.set o []=H')
  (h:jF P T n c Q {fr with box:=kQ fr.box d (some (pre++.slice .pw [x]::post))} H'):jF P T n c Q fr H:=by
 subst z;intro G0 F0 n0 w0 a w hs;refine h G0 F0 n0 w0 a w ?_;obtain⟨ρ,F,R,hw,A⟩:=hs;obtain⟨F',vs,B,hF,mF,j,m,i,e⟩:=hw.kill u k;refine⟨ρ,F',R,⟨e.g,e.size,e.defers,e.env,e.hn,e.lg,e.ag,?_,e.tok,e.AG,e.vQ,e.tf,e.Ag⟩,?_⟩
 ·intro q r f;simp only[kQ] at f
  by_cases he:q=d
  ·subst he;simp only[if_true,zq] at f;subst f;obtain⟨C,D,t,vs',s,E,I⟩:=e.box q _ v;refine⟨C,D,?_,vs',s,E,?_⟩
   ·intro c hc;simp only[tA,gT] at hc;rcases hc with hc|rfl|hc
    ·exact t c (by simp[hc])
    ·rfl
    ·exact t c (by simp[hc])
   ·have key:∀{l:List AV} {us:List Value},lY (pj F' ρ) (l++.Iv o 0 1 1::post) us->lY (pj F' ρ) (l++.slice .pw [x]::post) us:=by
     intro l
     induction l with
     |nil=>
      intro us hu;cases hu with
      |cons g1 g2=>
       refine .cons ?_ g2;obtain⟨rfl,g3,g4,g5⟩:=O1 (.cell g1)
       have J:=k5.slice (F:=F') (G:=ρ.G) (n:=ρ.n) (tag:=.pw) (l:=[x]) (vs:=vs) (b:=ρ.G o) (o:=0) (base:=some ⟨ρ.G o,0,none⟩) (cap:=1) (sz:=x.cells.length) (by simpa using m) j (λ_=>rfl)
        aae (by simpa using i) aae g5 (.inl rfl)
       exact .p J
     |cons y l K=>
      intro us hu;cases hu with
      |cons g1 g2=>exact .cons g1 (K g2)
    exact key I
  ·simp only[cJ he] at f;exact e.box q r f
 ·have:=A.YO hF mF;simpa using this
end
section
variable{X:Cx} {k:Nat} {S:List It} {fr:Fr} {H H':dM} {c:Code}
def acM(k:Nat){o d:Nat}{pre post:List AV}{x:AV}(e:H[o]?=some x.cells)(f:fr.box d=some (pre++.Iv o 0 1 1::post))(b:Fe x.cells=true)(g:H.set o []=H')
  (h:Wf X k (.c c::S) {fr with box:=kQ fr.box d (some (pre++.slice .pw [x]::post))} H'):Wf X 0 (.c c::S) fr H:=
 λhm a=>jF.acz e f b g (sW X k _ _ _ h hm a)
end
def Wy{a b:Int}(h:dC a b=true):a=b:=by
 unfold dC at h;exact eq_of_beq h
def Wb{ks:List Value}{k:Value}{j:Nat}(h:mapIdx ks k=some j):j<ks.length:=by
 unfold mapIdx at h;exact(List.findIdx?_eq_some_iff_getElem.1 h).1
section
variable{P:Program} {H:dM} {o:Nat} {k:Int} {t kt e:TypeId} {ks:List Value} {xs:List AV} {z:AV}
def V4(hu:P.underlying t=some (.map kt e))(b:P.underlying kt=some (.int .i64))(c:TZ P e=some z)(d:H[o]?=some [.Dd ks xs])(f:ks.all (P7 (.int .i64))=true)(g:xs.length=ks.length):Dz P H t (.vu o) (.sc (.int .i64 k)) false=some (match mapIdx ks (.int .i64 k)with|some j=>xs.getD j .undef|none=>z):=by
 unfold Dz;simp only[hu,b,d,c];rw[cL ⟨rfl,f⟩];cases hi:mapIdx ks (.int .i64 k)with
 |none=>rfl|some j=>
  have a:=Wb hi;rw[<-g] at a;simp[mr a]
def CO.new{fr:Fr}{K:Fr->dM->Prop}{v:AV}(hu:P.underlying t=some (.map kt e))(a:P.underlying kt=some (.int .i64))(b:H[o]?=some [.Dd ks xs])(c:ks.all (P7 (.int .i64))=true)(hn:mapIdx ks (.int .i64 k)=none)
  (d:K fr (iE H o [.Dd (ks++[.int .i64 k]) (xs++[v.norm])])):BR P t (.vu o) (.sc (.int .i64 k)) v K fr H:=by
 unfold BR;simp only[hu,a,b];refine⟨rfl,c,?_⟩;rw[Mv,hn];exact d
def CO.Hh{fr:Fr}{K:Fr->dM->Prop}{v:AV}(hu:P.underlying t=some (.map kt e))(a:P.underlying kt=some (.int .i64))(b:ks.all (P7 (.int .i64))=true)(hn:mapIdx ks (.int .i64 k)=none)
  (c:K fr (H++[[.Dd (ks++[.int .i64 k]) (xs++[v.norm])]])):BR P t (.vu H.length) (.sc (.int .i64 k)) v K fr (H++[[.Dd ks xs]]):=by
 refine CO.new hu a (ks:=ks) (xs:=xs) aae b hn ?_;simp only[iE];simpa using c
end
section
variable{P:Program} {t:TypeId} {k:IntKind} {a:Int}
def Ra{α:Type}{f:α->List AV}{sz:Nat}(h:∀x,(f x).length=sz):∀(L:List α) (i:Nat),((L.flatMap f).drop (i*sz)).take sz=match L[i]?with|some x=>f x|none=>[]
 |[],i=>by simp|x::L,0=>by simp[ZT,h x,ZV]|x::L,i+1=>by
  have a:((x::L).flatMap f).drop ((i+1)*sz)=(L.flatMap f).drop (i*sz):=by
   rw[P_,show(i+1)*sz=(f x).length+i*sz by rw[h,V2,Nat.add_comm],<-List.drop_drop,List.drop_left]
  rw[a,Ra h L i];rfl
def Q8{α:Type}{f:α->List AV}{sz:Nat}(h:∀x,(f x).length=sz):∀(L:List α),(L.flatMap f).length=L.length*sz
 |[]=>by simp|x::L=>by rw[P_,oG,h,Q8 h L,hQ,V2,Nat.add_comm]
def NW{α:Type}{f:α->AV}{g:α->List AV}{L:List α}{n e sz:Nat}(hu:P.underlying t=some (.array n e))(j:jd P e=some (true,sz))(hg:∀x,g x=(f x).cells)(m:∀x,∃cs,f x=.agg cs)(c:∀x,(f x).cells.length=sz)(hn:L.length=n):jN P t (.tB (.agg (L.flatMap g))) (.sc (.int k a))=(du L a).map λx=>.tB (f x):=by
 have b:∀x,(g x).length=sz:=λx=>by rw[hg];exact c x
 unfold jN du;simp only[hu,j];have d:(AV.agg (L.flatMap g)).cells=L.flatMap g:=rfl;rw[d];unfold tH;simp only[j]
 by_cases h:0<=a
 ·rw[cL h]
  by_cases l:a<n
  ·rw[cL ⟨h,l⟩]
   have hi:a.toNat<L.length:=Zb
   rw[cL (by rw[Q8 b,<-V2];exact NX _ hi),Ra b,mr hi];obtain⟨cs,o⟩:=m L[a.toNat];simp only[XF,hg,o,AV.cells]
  ·rw[cJ (λi=>l i.2),YR Zb];rfl
 ·rw[cJ h,cJ (λi=>h i.1)];rfl
def M3{n e sz b g o j:Nat}{ag:Bool}{i:Int}(hu:P.underlying t=some (.array n e))(a:jd P e=some (ag,sz))(hi:dC i (j:Int)=true)(c:j<n):jN P t (.mD b g o) (.sc (.int .i64 i))=some (.mD b g (o+j*sz)):=by
 rw[Wy hi];unfold jN;simp only[hu,a];rw[cL ⟨Zb,Zb⟩];simp
end
end Go.tq
