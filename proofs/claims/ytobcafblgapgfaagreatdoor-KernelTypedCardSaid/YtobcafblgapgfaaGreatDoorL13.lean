/- Part of the proof of KernelTyped: layer. -/
import Derived.Test.YtobcafblgapgfaaGreatDoorL12
set_option linter.all false
namespace Go.m7
open Go Go.hI
section
variable{P:Program} {T:fa} {n B0:Nat} {ρ:Maps} {F:lF} {R:Nat->pX} {fr:Fr} {H H':eD} {a:Act} {w:World}
def WR.kill(h:WR T n B0 ρ F R fr H a w){o:Nat}{cs:List AV}(J:H[o]?=some cs)(B:wG cs=true):∃F' vs,ur F F' ρ ρ/\(∀b j,(∀o,o<H.length->ρ.G o≠b)->F' b j=F b j)/\(∀b j v,F b j=some v->F' b j=some v)/\F'.has (ρ.G o) 0 vs/\hU F' ρ.G ρ.n cs vs/\(∀c∈cs,c.hZ=true)/\WR T n B0 ρ F' R fr (H.set o []) a w:=by
 have q:=(pz.1 J).1;obtain⟨ob,I,X⟩:=h.g.mc o cs J;obtain⟨vs,ty,V,rfl,K,Y,W⟩:=X.FE B
 have L:cs≠[]:=by rintro rfl;simp at B
 have hF:∀j,F (ρ.G o) j=none:=λj=>h.g.gF o j q (by rw[J];exactλe=>L (iy e))
 let F':lF:=λb j=>if b=ρ.G o then vs.toList[j]?else F b j
 have C:∀j,F' (ρ.G o) j=vs.toList[j]?:=λj=>ee rfl;have f:∀b j,b≠ρ.G o->F' b j=F b j:=λb j r=>ea r
 have mF:∀b j v,F b j=some v->F' b j=some v:=by
  intro b j v l;rw[f b j (by rintro rfl;rw[hF j] at l;cases l)];exact l
 have s:∀G n,DZ F F' G G n n:=λG n=>⟨mF,jo _,λ_ _=>rfl⟩;have u:ur F F' ρ ρ:=⟨s _ _,λ_=>jo _,λ_ _ _=>rfl,λ_=>jo _,λ_ _ _=>rfl⟩
 have z:(H.set o []).length=H.length:=by simp
 have D:hU F' ρ.G ρ.n cs vs.toList:=by
  rw[h.hn];exact(hU.pS Y).grow (s _ _)
 refine⟨F',vs.toList,u,λb j r=>f b j (λe=>r o q e.symm),mF,?_,D,W,⟨⟨?_,?_,?_,?_,?_,?_,?_⟩,h.size,h.defers,h.env.grow u,by rw[z];exact h.hn,h.lg,h.ag,?_,?_,?_,by rw[z];exact h.oz,h.mB,h.rF⟩⟩
 ·intro j v l;rw[uK,C];exact l
 ·intro b j v l
  by_cases r:b=ρ.G o
  ·subst r;rw[C] at l;rw[cell_of_row w _ j vs ty V I];simpa using l
  ·rw[f b j r] at l;exact h.g.EX b j v l
 ·intro o' y i;rw[z]
  by_cases he:o=o'
  ·subst he;simp only[Lf q] at i;cases i;exact⟨_,I,.dead⟩
  ·rw[Ud he] at i;obtain⟨M,E,A⟩:=h.g.mc o' y i;exact⟨M,E,A.grow (s _ _)⟩
 ·rw[z];exact h.g.inj
 ·intro o' j i t;rw[z] at i
  by_cases he:o=o'
  ·subst he;simp only[Lf q] at t;exact absurd rfl t
  ·rw[Ud he] at t;rw[f _ _ (λe=>he (h.g.inj o' o i q e).symm)];exact h.g.gF o' j i t
 ·intro b j r
  have N:b≠ρ.G o:=by rintro rfl;have:=pU I;omega
  rw[f b j N];exact h.g.fresh b j r
 ·intro g x Z;rw[z];exact(h.g.AO g x Z).grow (s _ _)
 ·intro hT b j v l
  by_cases r:b=ρ.G o
  ·subst r;exact⟨vs,ty,V,I,K,kH ((hU.uM D).mono λ_ _ _ h=>j8.p h) W⟩
  ·rw[f b j r] at l;exact h.g.row hT b j v l
 ·intro d y hd;obtain⟨E,A,O,vs',P,Q,S⟩:=h.box d y hd;exact⟨E,A,O,vs',P,Q,S.mono λ_ _ _ h=>h.grow u⟩
 ·intro k m hk b c sz hA;obtain⟨E,A,O,U,Q,S⟩:=h.tok k m hk b c sz hA;refine⟨E,A,O,U,Q,λj hj=>?_⟩;rw[f]
  ·exact S j hj
  ·rintro rfl;have:=h.oz o q;rw[A] at this;cases this
 ·intro b j v l d
  by_cases r:b=ρ.G o
  ·subst r;rw[h.oz o q];simp
  ·rw[f b j r] at l;exact h.rZ b j v l d
def gJ.YD{c:Code}{Q:Exit->Fr->eD->Prop}{o d:Nat}{pre post:List AV}{x:AV}(u:H[o]?=some x.cells)(v:fr.box d=some (pre++.zz o 0 1 1::post))(k:wG x.cells=true)(z:H.set o []=H')
  (h:gJ P T n c Q {fr with box:=hS fr.box d (some (pre++.slice .iP [x]::post))} H'):gJ P T n c Q fr H:=by
 subst z;intro G0 F0 n0 w0 a w hs;refine h G0 F0 n0 w0 a w ?_;obtain⟨ρ,F,R,hw,A⟩:=hs;obtain⟨F',vs,B,hF,mF,j,m,i,e⟩:=hw.kill u k;refine⟨ρ,F',R,⟨e.g,e.size,e.defers,e.env,e.hn,e.lg,e.ag,?_,e.tok,e.rZ,e.oz,e.mB,e.rF⟩,?_⟩
 ·intro q r f;simp only[hS] at f
  by_cases he:q=d
  ·subst he;simp only[if_true,s7] at f;subst f;obtain⟨C,D,t,vs',s,E,I⟩:=e.box q _ v;refine⟨C,D,?_,vs',s,E,?_⟩
   ·intro c hc;simp only[sR,ma] at hc;rcases hc with hc|rfl|hc
    ·exact t c (by simp[hc])
    ·rfl
    ·exact t c (by simp[hc])
   ·have key:∀{l:List AV} {us:List Value},iA (j8 F' ρ) (l++.zz o 0 1 1::post) us->iA (j8 F' ρ) (l++.slice .iP [x]::post) us:=by
     intro l
     induction l with
     |nil=>
      intro us hu;cases hu with
      |cons g1 g2=>
       refine .cons ?_ g2;obtain⟨rfl,g3,g4,g5⟩:=GV (.cell g1)
       have J:=ib.slice (F:=F') (G:=ρ.G) (n:=ρ.n) (tag:=.iP) (l:=[x]) (vs:=vs) (b:=ρ.G o) (o:=0) (base:=some ⟨ρ.G o,0,none⟩) (cap:=1) (sz:=x.cells.length) (by simpa using m) j (λ_=>rfl)
        (by simp) (by simpa using i) (by simp) g5 (.inl rfl)
       exact .p J
     |cons y l K=>
      intro us hu;cases hu with
      |cons g1 g2=>exact .cons g1 (K g2)
    exact key I
  ·simp only[ea he] at f;exact e.box q r f
 ·have:=A.TY hF mF;simpa using this
end
section
variable{X:Cx} {k:Nat} {S:List It} {fr:Fr} {H H':eD} {c:Code}
def ZZ(k:Nat){o d:Nat}{pre post:List AV}{x:AV}(e:H[o]?=some x.cells)(f:fr.box d=some (pre++.zz o 0 1 1::post))(b:wG x.cells=true)(g:H.set o []=H')
  (h:Wf X k (.c c::S) {fr with box:=hS fr.box d (some (pre++.slice .iP [x]::post))} H'):Wf X 0 (.c c::S) fr H:=
 λhm a=>gJ.YD e f b g (mr X k _ _ _ h hm a)
end
def Tq{a b:Int}(h:eH a b=true):a=b:=by
 unfold eH at h;exact eq_of_beq h
def Px{ks:List Value}{k:Value}{j:Nat}(h:mapIdx ks k=some j):j<ks.length:=by
 unfold mapIdx at h;exact(List.findIdx?_eq_some_iff_getElem.1 h).1
section
variable{P:Program} {H:eD} {o:Nat} {k:Int} {t kt e:TypeId} {ks:List Value} {xs:List AV} {z:AV}
def Qn(hu:P.underlying t=some (.map kt e))(b:P.underlying kt=some (.int .i64))(c:Ll P e=some z)(d:H[o]?=some [.tZ ks xs])(f:ks.all (Gh (.int .i64))=true)(g:xs.length=ks.length):uP P H t (.mh o) (.sc (.int .i64 k)) false=some (match mapIdx ks (.int .i64 k)with|some j=>xs.getD j .undef|none=>z):=by
 unfold uP;simp only[hu,b,d,c];rw[ee ⟨rfl,f⟩];cases hi:mapIdx ks (.int .i64 k)with
 |none=>rfl|some j=>
  have a:=Px hi;rw[<-g] at a;simp[oD a]
def tJ.new{fr:Fr}{K:Fr->eD->Prop}{v:AV}(hu:P.underlying t=some (.map kt e))(a:P.underlying kt=some (.int .i64))(b:H[o]?=some [.tZ ks xs])(c:ks.all (Gh (.int .i64))=true)(hn:mapIdx ks (.int .i64 k)=none)
  (d:K fr (gb H o [.tZ (ks++[.int .i64 k]) (xs++[v.norm])])):sF P t (.mh o) (.sc (.int .i64 k)) v K fr H:=by
 unfold sF;simp only[hu,a,b];refine⟨rfl,c,?_⟩;rw[DO,hn];exact d
def tJ.xQ{fr:Fr}{K:Fr->eD->Prop}{v:AV}(hu:P.underlying t=some (.map kt e))(a:P.underlying kt=some (.int .i64))(b:ks.all (Gh (.int .i64))=true)(hn:mapIdx ks (.int .i64 k)=none)
  (c:K fr (H++[[.tZ (ks++[.int .i64 k]) (xs++[v.norm])]])):sF P t (.mh H.length) (.sc (.int .i64 k)) v K fr (H++[[.tZ ks xs]]):=by
 refine tJ.new hu a (ks:=ks) (xs:=xs) (by simp) b hn ?_;simp only[gb];simpa using c
end
section
variable{P:Program} {t:TypeId} {k:IntKind} {a:Int}
def JJ{α:Type}{f:α->List AV}{sz:Nat}(h:∀x,(f x).length=sz):∀(L:List α) (i:Nat),((L.flatMap f).drop (i*sz)).take sz=match L[i]?with|some x=>f x|none=>[]
 |[],i=>by simp|x::L,0=>by simp[Hc,h x,V7]|x::L,i+1=>by
  have a:((x::L).flatMap f).drop ((i+1)*sz)=(L.flatMap f).drop (i*sz):=by
   rw[Bo,show(i+1)*sz=(f x).length+i*sz by rw[h,tl,Nat.add_comm],<-List.drop_drop,List.drop_left]
  rw[a,JJ h L i];rfl
def Jr{α:Type}{f:α->List AV}{sz:Nat}(h:∀x,(f x).length=sz):∀(L:List α),(L.flatMap f).length=L.length*sz
 |[]=>by simp|x::L=>by rw[Bo,qY,h,Jr h L,ld,tl,Nat.add_comm]
def Fb{α:Type}{f:α->AV}{g:α->List AV}{L:List α}{n e sz:Nat}(hu:P.underlying t=some (.array n e))(j:gy P e=some (true,sz))(hg:∀x,g x=(f x).cells)(m:∀x,∃cs,f x=.agg cs)(c:∀x,(f x).cells.length=sz)(hn:L.length=n):gN P t (.np (.agg (L.flatMap g))) (.sc (.int k a))=(eJ L a).map λx=>.np (f x):=by
 have b:∀x,(g x).length=sz:=λx=>by rw[hg];exact c x
 unfold gN eJ;simp only[hu,j];have d:(AV.agg (L.flatMap g)).cells=L.flatMap g:=rfl;rw[d];unfold m8;simp only[j]
 by_cases h:0<=a
 ·rw[ee h]
  by_cases l:a<n
  ·rw[ee ⟨h,l⟩]
   have hi:a.toNat<L.length:=by omega
   rw[ee (by rw[Jr b,<-tl];exact KP _ hi),JJ b,oD hi];obtain⟨cs,o⟩:=m L[a.toNat];simp only[Z6,hg,o,AV.cells]
  ·rw[ea (λi=>l i.2),U0 (by omega)];rfl
 ·rw[ea h,ea (λi=>h i.1)];rfl
def DG{n e sz b g o j:Nat}{ag:Bool}{i:Int}(hu:P.underlying t=some (.array n e))(a:gy P e=some (ag,sz))(hi:eH i (j:Int)=true)(c:j<n):gN P t (.eC b g o) (.sc (.int .i64 i))=some (.eC b g (o+j*sz)):=by
 rw[Tq hi];unfold gN;simp only[hu,a];rw[ee ⟨by omega,by omega⟩];simp
end
end Go.m7
