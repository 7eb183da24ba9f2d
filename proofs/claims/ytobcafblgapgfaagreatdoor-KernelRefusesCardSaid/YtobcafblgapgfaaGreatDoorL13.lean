/- Part of the proof of KernelRefuses: layer. -/
import Derived.Test.YtobcafblgapgfaaGreatDoorL12
set_option linter.all false
namespace Go.nd
open Go Go.gV
section
variable{P:Program} {T:fh} {n B0:Nat} {ρ:Maps} {F:lN} {R:Nat->pV} {fr:Fr} {H H':eB} {a:Act} {w:World}
def WR.kill(h:WR T n B0 ρ F R fr H a w){o:Nat}{cs:List AV}(J:H[o]?=some cs)(B:wx cs=true):∃F' vs,uz F F' ρ ρ/\(∀b j,(∀o,o<H.length->ρ.G o≠b)->F' b j=F b j)/\(∀b j v,F b j=some v->F' b j=some v)/\F'.has (ρ.G o) 0 vs/\hV F' ρ.G ρ.n cs vs/\(∀c∈cs,c.h_=true)/\WR T n B0 ρ F' R fr (H.set o []) a w:=by
 have q:=(pK.1 J).1;obtain⟨ob,I,X⟩:=h.g.ml o cs J;obtain⟨vs,ty,V,rfl,K,Y,W⟩:=X.FH B
 have L:cs≠[]:=by rintro rfl;simp at B
 have hF:∀j,F (ρ.G o) j=none:=λj=>h.g.gF o j q (by rw[J];exactλe=>L (iD e))
 let F':lN:=λb j=>if b=ρ.G o then vs.toList[j]?else F b j
 have C:∀j,F' (ρ.G o) j=vs.toList[j]?:=λj=>ee rfl;have f:∀b j,b≠ρ.G o->F' b j=F b j:=λb j r=>ea r
 have mF:∀b j v,F b j=some v->F' b j=some v:=by
  intro b j v l;rw[f b j (by rintro rfl;rw[hF j] at l;cases l)];exact l
 have s:∀G n,Eo F F' G G n n:=λG n=>⟨mF,jw _,λ_ _=>rfl⟩;have u:uz F F' ρ ρ:=⟨s _ _,λ_=>jw _,λ_ _ _=>rfl,λ_=>jw _,λ_ _ _=>rfl⟩
 have z:(H.set o []).length=H.length:=by simp
 have D:hV F' ρ.G ρ.n cs vs.toList:=by
  rw[h.hn];exact(hV.pQ Y).grow (s _ _)
 refine⟨F',vs.toList,u,λb j r=>f b j (λe=>r o q e.symm),mF,?_,D,W,⟨⟨?_,?_,?_,?_,?_,?_,?_⟩,h.size,h.defers,h.env.grow u,by rw[z];exact h.hn,h.lg,h.ag,?_,?_,?_,by rw[z];exact h.oB,h.mH,h.rz⟩⟩
 ·intro j v l;rw[vl,C];exact l
 ·intro b j v l
  by_cases r:b=ρ.G o
  ·subst r;rw[C] at l;rw[cell_of_row w _ j vs ty V I];simpa using l
  ·rw[f b j r] at l;exact h.g.Fa b j v l
 ·intro o' y i;rw[z]
  by_cases he:o=o'
  ·subst he;simp only[KQ q] at i;cases i;exact⟨_,I,.dead⟩
  ·rw[Uh he] at i;obtain⟨M,E,A⟩:=h.g.ml o' y i;exact⟨M,E,A.grow (s _ _)⟩
 ·rw[z];exact h.g.inj
 ·intro o' j i t;rw[z] at i
  by_cases he:o=o'
  ·subst he;simp only[KQ q] at t;exact absurd rfl t
  ·rw[Uh he] at t;rw[f _ _ (λe=>he (h.g.inj o' o i q e).symm)];exact h.g.gF o' j i t
 ·intro b j r
  have N:b≠ρ.G o:=by rintro rfl;have:=pR I;omega
  rw[f b j N];exact h.g.fresh b j r
 ·intro g x Z;rw[z];exact(h.g.AS g x Z).grow (s _ _)
 ·intro hT b j v l
  by_cases r:b=ρ.G o
  ·subst r;exact⟨vs,ty,V,I,K,kO ((hV.uN D).mono λ_ _ _ h=>ka.p h) W⟩
  ·rw[f b j r] at l;exact h.g.row hT b j v l
 ·intro d y hd;obtain⟨E,A,O,vs',P,Q,S⟩:=h.box d y hd;exact⟨E,A,O,vs',P,Q,S.mono λ_ _ _ h=>h.grow u⟩
 ·intro k m hk b c sz hA;obtain⟨E,A,O,U,Q,S⟩:=h.tok k m hk b c sz hA;refine⟨E,A,O,U,Q,λj hj=>?_⟩;rw[f]
  ·exact S j hj
  ·rintro rfl;have:=h.oB o q;rw[A] at this;cases this
 ·intro b j v l d
  by_cases r:b=ρ.G o
  ·subst r;rw[h.oB o q];simp
  ·rw[f b j r] at l;exact h.rN b j v l d
def gJ.Zr{c:Code}{Q:Exit->Fr->eB->Prop}{o d:Nat}{pre post:List AV}{x:AV}(u:H[o]?=some x.cells)(v:fr.box d=some (pre++.zo o 0 1 1::post))(k:wx x.cells=true)(z:H.set o []=H')
  (h:gJ P T n c Q {fr with box:=hU fr.box d (some (pre++.slice .iR [x]::post))} H'):gJ P T n c Q fr H:=by
 subst z;intro G0 F0 n0 w0 a w hs;refine h G0 F0 n0 w0 a w ?_;obtain⟨ρ,F,R,hw,A⟩:=hs;obtain⟨F',vs,B,hF,mF,j,m,i,e⟩:=hw.kill u k;refine⟨ρ,F',R,⟨e.g,e.size,e.defers,e.env,e.hn,e.lg,e.ag,?_,e.tok,e.rN,e.oB,e.mH,e.rz⟩,?_⟩
 ·intro q r f;simp only[hU] at f
  by_cases he:q=d
  ·subst he;simp only[if_true,tC] at f;subst f;obtain⟨C,D,t,vs',s,E,I⟩:=e.box q _ v;refine⟨C,D,?_,vs',s,E,?_⟩
   ·intro c hc;simp only[tj,l7] at hc;rcases hc with hc|rfl|hc
    ·exact t c (by simp[hc])
    ·rfl
    ·exact t c (by simp[hc])
   ·have key:∀{l:List AV} {us:List Value},iC (ka F' ρ) (l++.zo o 0 1 1::post) us->iC (ka F' ρ) (l++.slice .iR [x]::post) us:=by
     intro l
     induction l with
     |nil=>
      intro us hu;cases hu with
      |cons g1 g2=>
       refine .cons ?_ g2;obtain⟨rfl,g3,g4,g5⟩:=F9 (.cell g1)
       have J:=ic.slice (F:=F') (G:=ρ.G) (n:=ρ.n) (tag:=.iR) (l:=[x]) (vs:=vs) (b:=ρ.G o) (o:=0) (base:=some ⟨ρ.G o,0,none⟩) (cap:=1) (sz:=x.cells.length) (by simpa using m) j (λ_=>rfl)
        (by simp) (by simpa using i) (by simp) g5 (.inl rfl)
       exact .p J
     |cons y l K=>
      intro us hu;cases hu with
      |cons g1 g2=>exact .cons g1 (K g2)
    exact key I
  ·simp only[ea he] at f;exact e.box q r f
 ·have:=A.UA hF mF;simpa using this
end
section
variable{X:Cx} {k:Nat} {S:List It} {fr:Fr} {H H':eB} {c:Code}
def Z7(k:Nat){o d:Nat}{pre post:List AV}{x:AV}(e:H[o]?=some x.cells)(f:fr.box d=some (pre++.zo o 0 1 1::post))(b:wx x.cells=true)(g:H.set o []=H')
  (h:Wf X k (.c c::S) {fr with box:=hU fr.box d (some (pre++.slice .iR [x]::post))} H'):Wf X 0 (.c c::S) fr H:=
 λhm a=>gJ.Zr e f b g (mB X k _ _ _ h hm a)
end
def R7{a b:Int}(h:eH a b=true):a=b:=by
 unfold eH at h;exact eq_of_beq h
def Qm{ks:List Value}{k:Value}{j:Nat}(h:mapIdx ks k=some j):j<ks.length:=by
 unfold mapIdx at h;exact(List.findIdx?_eq_some_iff_getElem.1 h).1
section
variable{P:Program} {H:eB} {o:Nat} {k:Int} {t kt e:TypeId} {ks:List Value} {xs:List AV} {z:AV}
def Qy(hu:P.underlying t=some (.map kt e))(b:P.underlying kt=some (.int .i64))(c:MG P e=some z)(d:H[o]?=some [.tR ks xs])(f:ks.all (HJ (.int .i64))=true)(g:xs.length=ks.length):uV P H t (.om o) (.sc (.int .i64 k)) false=some (match mapIdx ks (.int .i64 k)with|some j=>xs.getD j .undef|none=>z):=by
 unfold uV;simp only[hu,b,d,c];rw[ee ⟨rfl,f⟩];cases hi:mapIdx ks (.int .i64 k)with
 |none=>rfl|some j=>
  have a:=Qm hi;rw[<-g] at a;simp[oG a]
def uk.new{fr:Fr}{K:Fr->eB->Prop}{v:AV}(hu:P.underlying t=some (.map kt e))(a:P.underlying kt=some (.int .i64))(b:H[o]?=some [.tR ks xs])(c:ks.all (HJ (.int .i64))=true)(hn:mapIdx ks (.int .i64 k)=none)
  (d:K fr (gC H o [.tR (ks++[.int .i64 k]) (xs++[v.norm])])):sQ P t (.om o) (.sc (.int .i64 k)) v K fr H:=by
 unfold sQ;simp only[hu,a,b];refine⟨rfl,c,?_⟩;rw[D1,hn];exact d
def uk.xY{fr:Fr}{K:Fr->eB->Prop}{v:AV}(hu:P.underlying t=some (.map kt e))(a:P.underlying kt=some (.int .i64))(b:ks.all (HJ (.int .i64))=true)(hn:mapIdx ks (.int .i64 k)=none)
  (c:K fr (H++[[.tR (ks++[.int .i64 k]) (xs++[v.norm])]])):sQ P t (.om H.length) (.sc (.int .i64 k)) v K fr (H++[[.tR ks xs]]):=by
 refine uk.new hu a (ks:=ks) (xs:=xs) (by simp) b hn ?_;simp only[gC];simpa using c
end
section
variable{P:Program} {t:TypeId} {k:IntKind} {a:Int}
def JV{α:Type}{f:α->List AV}{sz:Nat}(h:∀x,(f x).length=sz):∀(L:List α) (i:Nat),((L.flatMap f).drop (i*sz)).take sz=match L[i]?with|some x=>f x|none=>[]
 |[],i=>by simp|x::L,0=>by simp[PT,h x,X0]|x::L,i+1=>by
  have a:((x::L).flatMap f).drop ((i+1)*sz)=(L.flatMap f).drop (i*sz):=by
   rw[BC,show(i+1)*sz=(f x).length+i*sz by rw[h,M6,Nat.add_comm],<-List.drop_drop,List.drop_left]
  rw[a,JV h L i];rfl
def Jt{α:Type}{f:α->List AV}{sz:Nat}(h:∀x,(f x).length=sz):∀(L:List α),(L.flatMap f).length=L.length*sz
 |[]=>by simp|x::L=>by rw[BC,sK,h,Jt h L,l5,M6,Nat.add_comm]
def Fv{α:Type}{f:α->AV}{g:α->List AV}{L:List α}{n e sz:Nat}(hu:P.underlying t=some (.array n e))(j:gq P e=some (true,sz))(hg:∀x,g x=(f x).cells)(m:∀x,∃cs,f x=.agg cs)(c:∀x,(f x).cells.length=sz)(hn:L.length=n):gQ P t (.nr (.agg (L.flatMap g))) (.sc (.int k a))=(eI L a).map λx=>.nr (f x):=by
 have b:∀x,(g x).length=sz:=λx=>by rw[hg];exact c x
 unfold gQ eI;simp only[hu,j];have d:(AV.agg (L.flatMap g)).cells=L.flatMap g:=rfl;rw[d];unfold m7;simp only[j]
 by_cases h:0<=a
 ·rw[ee h]
  by_cases l:a<n
  ·rw[ee ⟨h,l⟩]
   have hi:a.toNat<L.length:=by omega
   rw[ee (by rw[Jt b,<-M6];exact Lv _ hi),JV b,oG hi];obtain⟨cs,o⟩:=m L[a.toNat];simp only[Z_,hg,o,AV.cells]
  ·rw[ea (λi=>l i.2),X2 (by omega)];rfl
 ·rw[ea h,ea (λi=>h i.1)];rfl
def Ee{n e sz b g o j:Nat}{ag:Bool}{i:Int}(hu:P.underlying t=some (.array n e))(a:gq P e=some (ag,sz))(hi:eH i (j:Int)=true)(c:j<n):gQ P t (.eD b g o) (.sc (.int .i64 i))=some (.eD b g (o+j*sz)):=by
 rw[R7 hi];unfold gQ;simp only[hu,a];rw[ee ⟨by omega,by omega⟩];simp
end
end Go.nd
