/- Part of the proof of KernelAccepts, KernelDoes: layer. -/
import Derived.Test.YtobcafblgapgfaaGreatDoorL3
set_option linter.all false
namespace Go.ke
open Go
def oP(P:Program)(T:dx)(c:Call)(dst:Option Nat)(K:Fr->cW->Prop)(fr:Fr)(H:cW):Prop:=
 match dst,c.args.toList,c.argTypes.toList with
 |some d,[s,x],[t,b]=>
  match nT P t,ev T fr x with
  |some (e,sz),.slice _ m=>
   b=t/\jq sz m=true/\(js P e).isSome=true/\0<m.length/\match ev T fr s with
   |.slice .full l=>jq sz l=true/\l.length+m.length<=ie/\∀cap,l.length+m.length<=cap->K (fr.put (some d) (.pQ H.length 0 (l.length+m.length) cap)) (H++[l.flatMap AV.cells++m.flatMap AV.cells++uq ((cap-(l.length+m.length))*sz)])|.HK=>m.length<=ie/\∀cap,m.length<=cap->K (fr.put (some d) (.pQ H.length 0 m.length cap)) (H++[m.flatMap AV.cells++uq ((cap-m.length)*sz)])|.pQ o off len cap=>off=0/\len+m.length<=ie/\match H[o]?with
    |some cs=>lj cs=true/\cs.length=cap*sz/\(len+m.length<=cap->K (fr.put (some d) (.pQ o 0 (len+m.length) cap)) (H.set o (setCells cs (len*sz) (m.flatMap AV.cells))))/\(∀a,cap<len+m.length->len+m.length<=a->K (fr.put (some d) (.pQ H.length 0 (len+m.length) a)) (H++[cs.take (len*sz)++m.flatMap AV.cells++uq ((a-(len+m.length))*sz)]))|none=>False
   |_=>False
  |_,_=>False
 |_,_,_=>False
section
variable{P:Program} {T:dx} {n:Nat} {G0:Nat->Nat} {F0:jY} {n0:Nat} {w0:World} {fr:Fr} {H:cW} {a:Act} {w:World}
def Dj(w:World)(t ty e p:TypeId)(i:TypeInfo)(q:P.underlying t=some (.slice e))(hi:P.info? e=some i)
  (g b d:Nat) (cur:Array Value) {n:Nat×Nat} (hg:w.heap[g]?=some (.cells cur p n)) (o:Nl n cur.size)
  (a:Addr) (m c:Nat) (news:List Value) (r:news.length=m*i.size) (f:∀j u,news[j]?=some u->w.cell? (a.add j)=some u) (h1:∀u∈news,u.oneCell'=true)
  (h:b+m<=d) (k:b*i.size+news.length<=cur.size):(Builtin.append_ #[t,t] ty #[.slice (some ⟨g,0,none⟩) b d,.slice (some a) m c]).run P w=.ok (.slice (some ⟨g,0,none⟩) (b+m) d) (w.setRow g (cur.toList.take (b*i.size)++news++cur.toList.drop (b*i.size+news.length)).toArray):=by
 have s:=run_firstCells_some (P:=P) w i.size m a m c news r f;have l:=rL P g (b*i.size) p n news 0 cur w hg o (by simpa using k) h1;simp only[ER] at l;simp[Builtin.append_,run_underlying q,sizeOf,typeInfo,hi,Builtin.lenOf,h,s,Addr.add_lit,l]
def xH{F:jY}{G:Nat->Nat}{k:Nat}:∀{rest:List Value} {m:Nat},rest.length=m->(∀u∈rest,u.oneCell'=true)->f_ (fF F G k) (uq m) rest
 |[],m,h,_=>by cases h;exact .nil
 |u::rest,m,h,h1=>by
  cases h;show f_ _ (List.replicate (rest.length+1) AV.undef) _;rw[Xi];exact .cons (.undef (h1 u aa4)) (xH rfl λv a=>h1 v (by simp[a]))
def Ii{ρ:Maps}{F:jY}{R:Nat->oM}(h:WR T n w0.heap.size ρ F R fr H a w)(hx:Ext w0.heap.size G0 F0 n0 w0 ρ.G F H.length w){c:Call}{dst:Option Nat}{ty:TypeId}{K:Fr->cW->Prop}
  (y:oP P T c dst K fr H) (hd:∀d,dst=some d->d<n) (aw:∀x∈c.args.toList,iD x=true):∃v w' fr' H',(Builtin.append_ c.argTypes ty (c.args.map a.eval)).run P w=.ok v w'/\K fr' H'/\SR T n G0 F0 n0 w0 fr' H' (a.put dst v) w':=by
 unfold oP at y
 split at y
 ·rename_i d s x t t' E ax;have e1:c.argTypes=#[t,t']:=Bt.1 (by rw[ax]);have e2:c.args.map a.eval=#[a.eval s,a.eval x]:=Bt.1 (by rw[LA,E];rfl);rw[e1,e2];have M:=fI h.env h.gH s (aw s (by rw[E];simp));have ay:=fI h.env h.gH x (aw x (by rw[E];simp))
  split at y
  ·rename_i e sz aV m W aF;obtain⟨rfl,aG,ab,ae,y⟩:=y;rw[aF] at ay;obtain⟨aH,J,b2,o2,aZ,r,aI,k,_,_⟩:=m4 ay;have hm:m≠[]:=EX.1 ae;have az:=qN aG k.sz;have X:=k.base hm
   have A:∀j v,r[j]?=some v->w.cell? ((⟨b2,o2,none⟩:Addr).add j)=some v:=by
    intro j v Q;rw[Addr.add_lit];exact h.g.BF b2 _ v (k.has j v Q)
   have D:r.length=m.length*sz:=by rw[<-k.cells.length,nI az]
   have N:f_ (fF F ρ.G ρ.n) (m.flatMap AV.cells) r:=k.cells.sF;have af:∀u∈r,u.oneCell'=true:=iT (N.mono λ_ _ _ h=>iL.p h) k.qS;obtain⟨i,z,hu,hi,hz,a1,ah,a6,aW⟩:=nA W
   have fin:∀{len f:Nat} {cells:List AV} {vs:Array Value},f_ (fF F ρ.G ρ.n) cells vs.toList->(∀c∈cells,c.eD=true)->len<=f->f<=maxLen->SR T n G0 F0 n0 w0 (fr.put (some d) (.pQ H.length 0 len f)) (H++[cells]) (a.put (some d) (.slice (some ⟨w.heap.size,0,none⟩) len f)) (w.drew.alloc (.cells vs e)):=by
    intro len f cells vs hc aA h1 h2;refine rH h.drew hx.drew (.cells (.inl rfl) hc aA) hd ?_;intro ρ' hG aJ aK;have:=fF.pQ (F:=F) (G:=ρ'.G) (n:=ρ'.n) (o:=H.length) (off:=0) (len:=len) (cap:=f) (by rw[aK];omega) h1 h2;rw[aJ] at this;exact this
   rw[aI,X]
   split at y
   ·--a new row
    rename_i l hs;obtain⟨aL,L,y⟩:=y;rw[hs] at M;obtain⟨base,cap,b,o,a7,vs,S,I,ai,_⟩:=m4 M;rw[S];have xt:cap=l.length:=ai rfl;have aB:=qN aL I.sz
    have Y:vs.length=l.length*sz:=by rw[<-I.cells.length,nI aB]
    have aM:base=none->l.length=0/\cap=0:=by
     rintro rfl
     have aN:l=[]:=by
      rcases V_ l with h'|⟨_,_,h'⟩
      ·exact h'
      ·have:=I.base (by rw[h'];simp);cases this
     subst aN;exact⟨rfl,xt⟩
    have ho:∀Z,base=some Z->∀j v,vs[j]?=some v->w.cell? (Z.add j)=some v:=by
     intro Z ak j v Q
     have aC:l≠[]:=by
      rintro rfl;have:vs=[]:=Aa (by simpa using Y);rw[this] at Q;simp at Q
     have:=I.base aC;rw[ak] at this;obtain rfl:=gh this;rw[Addr.add_lit];exact h.g.BF b _ v (I.has j v Q)
    obtain⟨f,rest,B,U,O,V,q⟩:=nd w W ab ty base l.length cap vs Y aM ho ⟨b2,o2,none⟩ m.length J r D A VW L;refine⟨_,_,_,_,q,y f B,fin ?_ ?_ B U⟩
    ·simp only;exact(I.cells.sF.append N).append (xH O V)
    ·intro c hc;simp only[qA] at hc;rcases hc with(hc|hc)|hc
     ·exact I.qS c hc
     ·exact k.qS c hc
     ·exact wN _ c hc
   ·--an empty slice aD room
    rename_i hs;obtain⟨L,y⟩:=y;rw[hs] at M;obtain⟨base,S⟩:=Lb M;rw[S];obtain⟨f,rest,B,U,O,V,q⟩:=nd w W ab ty base 0 0 [] aa4 (λ_=>⟨rfl,rfl⟩) (by intro Z _ j v Q;simp at Q) ⟨b2,o2,none⟩ m.length J r D A VW VW;simp only[r_,mR] at B O q;refine⟨_,_,_,_,q,y f B,fin ?_ ?_ B U⟩
    ·simp only;exact N.append (xH O V)
    ·intro c hc;simp only[qA] at hc;rcases hc with hc|hc
     ·exact k.qS c hc
     ·exact wN _ c hc
   ·--a shared object
    rename_i o off len cap hs;obtain⟨rfl,L,y⟩:=y;rw[hs] at M;obtain⟨S,aE,aO,aP⟩:=CG M;rw[S]
    split at y
    ·rename_i cs hb;obtain⟨aa,aQ,aR,aS⟩:=y;obtain⟨ob,h4,h5⟩:=h.g.jX o cs hb;obtain⟨cur,Yt,fz,rfl,aT,h5,h6⟩:=h5.xi aa
     have aX:cur.size=cap*sz:=by rw[<-aQ];simpa using h5.length.symm
     have hle:len*sz<=cap*sz:=CP _ aO;rw[<-h.hn] at h5
     by_cases C:len+m.length<=cap
     ·have aY:len*sz+m.length*sz<=cap*sz:=by rw[<-xu];exact CP _ C
      have q:=Dj (P:=P) w t' ty e Yt i hu hi (ρ.G o) len cap cur h4 aT ⟨b2,o2,none⟩ m.length J r (by rw[ah];exact D) A af C (by rw[ah];omega);rw[ah] at q;have dH:=h5.setCells N (len*sz);have aq:(m.flatMap AV.cells).length=r.length:=N.length
      have ar:∀c∈setCells cs (len*sz) (m.flatMap AV.cells),c.eD=true:=by
       intro c hc;simp only[setCells,qA] at hc;rcases hc with(hm|hm)|hm
       ·exact h6 c (Ab hm)
       ·exact k.qS c hm
       ·exact h6 c (EL hm)
      have aU:=h.OZ (vs':=(cur.toList.take (len*sz)++r++cur.toList.drop (len*sz+r.length)).toArray) hb aa (by rw[<-aq];simpa[aq] using dH)
       (by simp only[setCells,oJ,xZ,My,aq,D];omega) ar
      have jt:=aU.put (d:=some d) (by intro d' he;injection he with he;subst he;exact hd _ rfl) (x:=.pQ o 0 (len+m.length) cap) (v:=.slice (some ⟨ρ.G o,0,none⟩) (len+m.length) cap) (.cell (.p (.pQ aE C aP)));refine⟨_,_,_,_,q,aR C,ρ,F,R,jt,?_⟩;rw[CN];exact hx.setRow (.inr ⟨o,by rw[<-h.hn];exact aE,rfl⟩) _
     ·have ho:∀Z,some (⟨ρ.G o,0,none⟩:Addr)=some Z->∀j v,(cur.toList.take (len*sz))[j]?=some v->w.cell? (Z.add j)=some v:=by
       intro Z ak j v Q;obtain rfl:=gh ak;rw[Addr.add_lit,r_,cell_of_row w _ _ cur Yt fz h4];rw[DG] at Q
       split at Q
       ·simpa using Q
       ·cases Q
      obtain⟨f,rest,B,U,O,V,q⟩:=nd w W ab ty (some ⟨ρ.G o,0,none⟩) len cap (cur.toList.take (len*sz)) aa_ (by intro h;cases h) ho ⟨b2,o2,none⟩ m.length J r D A VW L;refine⟨_,_,_,_,q,aS f VW B,fin ?_ ?_ B U⟩
      ·simp only;exact((h5.take _).append N).append (xH O V)
      ·intro c hc;simp only[qA] at hc;rcases hc with(hc|hc)|hc
       ·exact h6 c (Ab hc)
       ·exact k.qS c hc
       ·exact wN _ c hc
    ·exact y.elim
   ·exact y.elim
  ·exact y.elim
 ·exact y.elim
end
end Go.ke
