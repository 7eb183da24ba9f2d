/- Part of the proof of TranslateWitness: layer. -/
import Derived.Laws.MakeOwn
import Derived.Test.YtffcgfpaakhbjaaGreatDoorL3
set_option linter.all false
namespace Go.jX
open Go
def m4(P:Program)(T:cW)(c:Call)(dst:Option Nat)(K:Fr->cd->Prop)(fr:Fr)(H:cd):Prop:=
 match dst,c.args.toList,c.argTypes.toList with
 |some d,[s,x],[t,b]=>
  match ng P t,ev T fr x with
  |some (e,sz),.slice _ m=>
   b=t/\iU sz m=true/\(fV P e).isSome=true/\0<m.length/\match ev T fr s with
   |.slice .full l=>iU sz l=true/\l.length+m.length<=gN/\∀cap,l.length+m.length<=cap->K (fr.put (some d) (.nU H.length 0 (l.length+m.length) cap)) (H++[l.flatMap AV.cells++m.flatMap AV.cells++pR ((cap-(l.length+m.length))*sz)])|.B4=>m.length<=gN/\∀cap,m.length<=cap->K (fr.put (some d) (.nU H.length 0 m.length cap)) (H++[m.flatMap AV.cells++pR ((cap-m.length)*sz)])|.nU o off len cap=>off=0/\len+m.length<=gN/\match H[o]?with
    |some cs=>lT cs=true/\cs.length=cap*sz/\(len+m.length<=cap->K (fr.put (some d) (.nU o 0 (len+m.length) cap)) (H.set o (setCells cs (len*sz) (m.flatMap AV.cells))))/\(∀a,cap<len+m.length->len+m.length<=a->K (fr.put (some d) (.nU H.length 0 (len+m.length) a)) (H++[cs.take (len*sz)++m.flatMap AV.cells++pR ((a-(len+m.length))*sz)]))|none=>False
   |_=>False
  |_,_=>False
 |_,_,_=>False
section
variable{P:Program} {T:cW} {n:Nat} {G0:Nat->Nat} {F0:jf} {n0:Nat} {w0:World} {fr:Fr} {H:cd} {a:Act} {w:World}
def BE(w:World)(t ty e p:TypeId)(i:TypeInfo)(q:P.underlying t=some (.slice e))(hi:P.info? e=some i)
  (g b d:Nat) (cur:Array Value) {n:Nat×Nat} (hg:w.heap[g]?=some (.cells cur p n)) (o:KR n cur.size)
  (a:Addr) (m c:Nat) (news:List Value) (r:news.length=m*i.size) (f:∀j u,news[j]?=some u->w.cell? (a.add j)=some u) (s:∀u∈news,u.oneCell'=true)
  (h:b+m<=d) (k:b*i.size+news.length<=cur.size):(Builtin.append_ #[t,t] ty #[.slice (some ⟨g,0,none⟩) b d,.slice (some a) m c]).run P w=.ok (.slice (some ⟨g,0,none⟩) (b+m) d) (w.setRow g (cur.toList.take (b*i.size)++news++cur.toList.drop (b*i.size+news.length)).toArray):=by
 have v:=run_firstCells_some (P:=P) w i.size m a m c news r f;have l:=p_ P g (b*i.size) p n news 0 cur w hg o (by simpa using k) s;simp only[AK] at l;simp[Builtin.append_,run_underlying q,sizeOf,typeInfo,hi,Builtin.lenOf,h,v,Addr.add_lit,l]
def vG{F:jf}{G:Nat->Nat}{k:Nat}:∀{rest:List Value} {m:Nat},rest.length=m->(∀u∈rest,u.oneCell'=true)->eM (eE F G k) (pR m) rest
 |[],m,h,_=>by cases h;exact .nil
 |u::rest,m,h,a=>by
  cases h;show eM _ (List.replicate (rest.length+1) AV.undef) _;rw[RA];exact .cons (.undef (a u th)) (vG rfl λv b=>a v (by simp[b]))
def Gq{ρ:Maps}{F:jf}{R:Nat->mx}(h:WR T n w0.heap.size ρ F R fr H a w)(hx:Ext w0.heap.size G0 F0 n0 w0 ρ.G F H.length w){c:Call}{dst:Option Nat}{ty:TypeId}{K:Fr->cd->Prop}
  (y:m4 P T c dst K fr H) (hd:∀d,dst=some d->d<n) (ar:∀x∈c.args.toList,gE x=true):∃v w' fr' H',(Builtin.append_ c.argTypes ty (c.args.map a.eval)).run P w=.ok v w'/\K fr' H'/\SR T n G0 F0 n0 w0 fr' H' (a.put dst v) w':=by
 unfold m4 at y
 split at y
 ·rename_i d s x t t' E aw;have e1:c.argTypes=#[t,t']:=zX.1 (by rw[aw]);have e2:c.args.map a.eval=#[a.eval s,a.eval x]:=zX.1 (by rw[I6,E];rfl);rw[e1,e2];have M:=eg h.env h.fp s (ar s (by rw[E];simp));have ax:=eg h.env h.fp x (ar x (by rw[E];simp))
  split at y
  ·rename_i e sz tag' m W aE;obtain⟨rfl,aF,ab,ae,y⟩:=y;rw[aE] at ax;obtain⟨aG,J,b2,o2,aX,r,aH,k,_,_⟩:=lq ax;have hm:m≠[]:=O2.1 ae;have ay:=oX aF k.sz;have X:=k.base hm
   have A:∀j v,r[j]?=some v->w.cell? ((⟨b2,o2,none⟩:Addr).add j)=some v:=by
    intro j v Q;rw[Addr.add_lit];exact h.g.Ea b2 _ v (k.has j v Q)
   have D:r.length=m.length*sz:=by rw[<-k.cells.length,lY ay]
   have N:eM (eE F ρ.G ρ.n) (m.flatMap AV.cells) r:=k.cells.rL;have af:∀u∈r,u.oneCell'=true:=gX (N.mono λ_ _ _ h=>hO.p h) k.pU;obtain⟨i,z,hu,hi,hz,aY,ah,aZ,aU⟩:=k7 W
   have fin:∀{len f:Nat} {cells:List AV} {vs:Array Value},eM (eE F ρ.G ρ.n) cells vs.toList->(∀c∈cells,c.dW=true)->len<=f->f<=maxLen->SR T n G0 F0 n0 w0 (fr.put (some d) (.nU H.length 0 len f)) (H++[cells]) (a.put (some d) (.slice (some ⟨w.heap.size,0,none⟩) len f)) (w.drew.alloc (.cells vs e)):=by
    intro len f cells vs hc az h1 h2;refine qb h.drew hx.drew (.cells (.inl rfl) hc az) hd ?_;intro ρ' hG aI aJ;have:=eE.nU (F:=F) (G:=ρ'.G) (n:=ρ'.n) (o:=H.length) (off:=0) (len:=len) (cap:=f) (by rw[aJ];omega) h1 h2;rw[aI] at this;exact this
   rw[aH,X]
   split at y
   ·--a new row
    rename_i l hs;obtain⟨aK,L,y⟩:=y;rw[hs] at M;obtain⟨base,cap,b,o,a1,vs,S,I,ai,_⟩:=lq M;rw[S];have xM:cap=l.length:=ai rfl;have aA:=oX aK I.sz
    have Y:vs.length=l.length*sz:=by rw[<-I.cells.length,lY aA]
    have aL:base=none->l.length=0/\cap=0:=by
     rintro rfl
     have aM:l=[]:=by
      rcases VS l with h'|⟨_,_,h'⟩
      ·exact h'
      ·have:=I.base (by rw[h'];simp);cases this
     subst aM;exact⟨rfl,xM⟩
    have ho:∀Z,base=some Z->∀j v,vs[j]?=some v->w.cell? (Z.add j)=some v:=by
     intro Z ak j v Q
     have aB:l≠[]:=by
      rintro rfl;have:vs=[]:=yD (by simpa using Y);rw[this] at Q;simp at Q
     have:=I.base aB;rw[ak] at this;obtain rfl:=gv this;rw[Addr.add_lit];exact h.g.Ea b _ v (I.has j v Q)
    obtain⟨f,rest,B,U,O,V,q⟩:=lM w W ab ty base l.length cap vs Y aL ho ⟨b2,o2,none⟩ m.length J r D A cw L;refine⟨_,_,_,_,q,y f B,fin ?_ ?_ B U⟩
    ·simp only;exact(I.cells.rL.append N).append (vG O V)
    ·intro c hc;simp only[pX] at hc;rcases hc with(hc|hc)|hc
     ·exact I.pU c hc
     ·exact k.pU c hc
     ·exact vk _ c hc
   ·--an empty slice aC room
    rename_i hs;obtain⟨L,y⟩:=y;rw[hs] at M;obtain⟨base,S⟩:=KA M;rw[S];obtain⟨f,rest,B,U,O,V,q⟩:=lM w W ab ty base 0 0 [] th (λ_=>⟨rfl,rfl⟩) (by intro Z _ j v Q;simp at Q) ⟨b2,o2,none⟩ m.length J r D A cw cw;simp only[sA,mw] at B O q;refine⟨_,_,_,_,q,y f B,fin ?_ ?_ B U⟩
    ·simp only;exact N.append (vG O V)
    ·intro c hc;simp only[pX] at hc;rcases hc with hc|hc
     ·exact k.pU c hc
     ·exact vk _ c hc
   ·--a shared object
    rename_i o off len cap hs;obtain⟨rfl,L,y⟩:=y;rw[hs] at M;obtain⟨S,aD,aN,aO⟩:=E6 M;rw[S]
    split at y
    ·rename_i cs hb;obtain⟨aa,aP,aQ,aR⟩:=y;obtain⟨ob,h4,h5⟩:=h.g.kq o cs hb;obtain⟨cur,Xe,fz,rfl,aS,h5,h6⟩:=h5.DA aa
     have aV:cur.size=cap*sz:=by rw[<-aP];simpa using h5.length.symm
     have hle:len*sz<=cap*sz:=Ak _ aN;rw[<-h.hn] at h5
     by_cases C:len+m.length<=cap
     ·have aW:len*sz+m.length*sz<=cap*sz:=by rw[<-vF];exact Ak _ C
      have q:=BE (P:=P) w t' ty e Xe i hu hi (ρ.G o) len cap cur h4 aS ⟨b2,o2,none⟩ m.length J r (by rw[ah];exact D) A af C (by rw[ah];omega);rw[ah] at q;have dC:=h5.setCells N (len*sz);have ao:(m.flatMap AV.cells).length=r.length:=N.length
      have aq:∀c∈setCells cs (len*sz) (m.flatMap AV.cells),c.dW=true:=by
       intro c hc;simp only[setCells,pX] at hc;rcases hc with(hm|hm)|hm
       ·exact h6 c (zy hm)
       ·exact k.pU c hm
       ·exact h6 c (Fq hm)
      have aT:=h.NF (vs':=(cur.toList.take (len*sz)++r++cur.toList.drop (len*sz+r.length)).toArray) hb aa (by rw[<-ao];simpa[ao] using dC)
       (by simp only[setCells,nd,vL,LF,ao,D];omega) aq
      have mB:=aT.put (d:=some d) (by intro d' he;injection he with he;subst he;exact hd _ rfl) (x:=.nU o 0 (len+m.length) cap) (v:=.slice (some ⟨ρ.G o,0,none⟩) (len+m.length) cap) (.cell (.p (.nU aD C aO)));refine⟨_,_,_,_,q,aQ C,ρ,F,R,mB,?_⟩;rw[Lh];exact hx.setRow (.inr ⟨o,by rw[<-h.hn];exact aD,rfl⟩) _
     ·have ho:∀Z,some (⟨ρ.G o,0,none⟩:Addr)=some Z->∀j v,(cur.toList.take (len*sz))[j]?=some v->w.cell? (Z.add j)=some v:=by
       intro Z ak j v Q;obtain rfl:=gv ak;rw[Addr.add_lit,sA,cell_of_row w _ _ cur Xe fz h4];rw[DQ] at Q
       split at Q
       ·simpa using Q
       ·cases Q
      obtain⟨f,rest,B,U,O,V,q⟩:=lM w W ab ty (some ⟨ρ.G o,0,none⟩) len cap (cur.toList.take (len*sz)) aae (by intro h;cases h) ho ⟨b2,o2,none⟩ m.length J r D A cw L;refine⟨_,_,_,_,q,aR f cw B,fin ?_ ?_ B U⟩
      ·simp only;exact((h5.take _).append N).append (vG O V)
      ·intro c hc;simp only[pX] at hc;rcases hc with(hc|hc)|hc
       ·exact h6 c (zy hc)
       ·exact k.pU c hc
       ·exact vk _ c hc
    ·exact y.elim
   ·exact y.elim
  ·exact y.elim
 ·exact y.elim
end
def vJ(P:Program)(t:TypeId)(l c:AV):Option AV:=
 match ng P t,l,c with
 |some (e,sz),.sc (.int .i64 n),.sc (.int .i64 m)=>match zeroOf P e with
  |some z=>if m=n/\0<=n/\n<=1099511627776/\vO z=true/\sz=1 then some (.slice .full (List.replicate n.toNat (.sc z)))else none|none=>none
 |_,_,_=>none
section
variable{P:Program} {T:cW} {n:Nat} {G0:Nat->Nat} {F0:jf} {n0:Nat} {w0:World} {fr:Fr} {H:cd} {a:Act} {w:World}
def eM.replicate{α β:Type}{R:α->β->Prop}{x:α}{y:β}(h:R x y):∀k,eM R (List.replicate k x) (List.replicate k y)
 |0=>.nil|k+1=>.cons h (eM.replicate h k)
def NB(z:Value):∀k,(List.replicate k (AV.sc z)).flatMap AV.cells=List.replicate k (AV.sc z)
 |0=>rfl|k+1=>by
  rw[RA,wT,NB z k];rfl
def Qv{z:Value}(h:vO z=true):z.cells=#[z]:=by
 cases z<;>first|rfl|(simp[vO] at h)
def LN(z:Value)(k:Nat):madeCells #[z] k=(List.replicate k z).toArray:=by
 apply Array.ext
 ·simp[madeCells]
 ·intro i a b;simp[madeCells,Nat.mod_one]
def C'{ρ:Maps}{F:jf}{R:Nat->mx}(h:WR T n w0.heap.size ρ F R fr H a w)(hx:Ext w0.heap.size G0 F0 n0 w0 ρ.G F H.length w){t:Nat}{l c r:AV}{u v:Value}
  {dst:Option Nat} (s:vJ P t l c=some r) (y:ej F ρ l u) (hc:ej F ρ c v) (hd:∀d,dst=some d->d<n):∃V w',(Instr.makeSlice t u v).run P w=.ok V w'/\SR T n G0 F0 n0 w0 (fr.put dst r) H (a.put dst V) w':=by
 unfold vJ at s
 split at s
 ·rename_i e sz n1 W L
  split at s
  ·rename_i z B
   split at s
   ·rename_i M;obtain⟨rfl,h0,h1,C,rfl⟩:=M;have N:=Qv C;cases s;cases dS y;cases dS hc;obtain⟨i,K,hu,hi,D,aa,O,ab,X⟩:=k7 L
    have Q:K=z:=by
     unfold zeroOf at B;rw[hi] at B;have B:i.zero=some z:=B;rw[D] at B;exact gv B
    subst Q;obtain⟨k,rfl⟩:∃k:Nat,W=k:=⟨W.toNat,cw⟩
    have f:=run_make (P:=P) w t e i K hu hi D .i64 .i64 (k:Int) k cw (RE _) (by
     have:(i.bytes:Int)*(k:Int)<=128*1099511627776:=Int.mul_le_mul cw h1 cw cw
     omega) cw
    rw[N,O,za,Tn,LN] at f;obtain⟨us,E⟩:∃us,us=List.replicate k K:=⟨_,rfl⟩;obtain⟨l,y⟩:∃l,l=List.replicate k (AV.sc K):=⟨_,rfl⟩
    have Y:l.length=k:=by rw[y,List.length_replicate]
    have I:l.flatMap AV.cells=l:=by rw[y,NB]
    have m:eM (eE F ρ.G ρ.n) (l.flatMap AV.cells) us:=by rw[I,y,E];exact eM.replicate (.sc C) k
    have A:∀x∈l.flatMap AV.cells,x.dW=true:=by
     intro x q;rw[I,y] at q;rw[(YI.1 q).2];rfl
    have S:∀x∈l,x.cells.length=1:=λx q=>by
     rw[y] at q;rw[(YI.1 q).2];rfl
    rw[<-E] at f;rw[za,<-y]
    have zF:k<=maxLen:=by simp only[maxLen];omega
    have J:=heap_alloc_new w (.cells us.toArray e);obtain⟨U,hw⟩:=(h.alloc (.cells us.toArray e)).freeze (us:=us) (k:=us.length) (h.kv _ (fC _)) (λj=>h.g.fresh _ j (fC _)) J (λu hu=>gX (m.mono λ_ _ _ h=>hO.p h) A u (by simpa using hu)) (by intro j v _ hv;simpa using hv);refine⟨_,_,f,ρ,_,R,hw.put hd (x:=.slice .full l) (v:=.slice (some ⟨w.heap.size,0,none⟩) k k) ?_,?_⟩
    ·have Z:=eE.slice (F:=iE F w.heap.size us.length us) (G:=ρ.G) (n:=ρ.n) (tag:=.full) (l:=l) (b:=w.heap.size) (o:=0) (base:=some ⟨w.heap.size,0,none⟩) (cap:=l.length) (sz:=1)
      (.m6 (m.mono λ_ _ _ h=>h.grow U.g)) (tV _ _ _) (λ_=>rfl) S A (fC _) (by rw[Y];exact zF) (.inr ⟨rfl,rfl⟩)
     rw[Y] at Z;exact .p Z
    ·exact(hx.alloc h.oV (.cells us.toArray e)).freeze (F':=iE F w.heap.size us.length us) λb j s=>qY (by have:=h.oV;omega)
   ·cases s
  ·cases s
 ·cases s
end
end Go.jX
