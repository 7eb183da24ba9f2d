/- Part of the proof of TranslateStable: layer. -/
import Derived.Laws.MakeOwn
import Derived.Test.YtffcgfpaakhbjaaGreatDoorL3
set_option linter.all false
namespace Go.jN
open Go
def nJ(P:Program)(T:cV)(c:Call)(dst:Option Nat)(K:Fr->cc->Prop)(fr:Fr)(H:cc):Prop:=
 match dst,c.args.toList,c.argTypes.toList with
 |some d,[s,x],[t,b]=>
  match nS P t,ev T fr x with
  |some (e,sz),.slice _ m=>
   b=t/\jm sz m=true/\(fY P e).isSome=true/\0<m.length/\match ev T fr s with
   |.slice .full l=>jm sz l=true/\l.length+m.length<=hS/\∀cap,l.length+m.length<=cap->K (fr.put (some d) (.oZ H.length 0 (l.length+m.length) cap)) (H++[l.flatMap AV.cells++m.flatMap AV.cells++qj ((cap-(l.length+m.length))*sz)])|.DI=>m.length<=hS/\∀cap,m.length<=cap->K (fr.put (some d) (.oZ H.length 0 m.length cap)) (H++[m.flatMap AV.cells++qj ((cap-m.length)*sz)])|.oZ o off len cap=>off=0/\len+m.length<=hS/\match H[o]?with
    |some cs=>mg cs=true/\cs.length=cap*sz/\(len+m.length<=cap->K (fr.put (some d) (.oZ o 0 (len+m.length) cap)) (H.set o (setCells cs (len*sz) (m.flatMap AV.cells))))/\(∀a,cap<len+m.length->len+m.length<=a->K (fr.put (some d) (.oZ H.length 0 (len+m.length) a)) (H++[cs.take (len*sz)++m.flatMap AV.cells++qj ((a-(len+m.length))*sz)]))|none=>False
   |_=>False
  |_,_=>False
 |_,_,_=>False
section
variable{P:Program} {T:cV} {n:Nat} {G0:Nat->Nat} {F0:js} {n0:Nat} {w0:World} {fr:Fr} {H:cc} {a:Act} {w:World}
def CF(w:World)(t ty e p:TypeId)(i:TypeInfo)(q:P.underlying t=some (.slice e))(hi:P.info? e=some i)
  (g b d:Nat) (cur:Array Value) {n:Nat×Nat} (hg:w.heap[g]?=some (.cells cur p n)) (o:MS n cur.size)
  (a:Addr) (m c:Nat) (news:List Value) (r:news.length=m*i.size) (f:∀j u,news[j]?=some u->w.cell? (a.add j)=some u) (s:∀u∈news,u.oneCell'=true)
  (h:b+m<=d) (k:b*i.size+news.length<=cur.size):(Builtin.append_ #[t,t] ty #[.slice (some ⟨g,0,none⟩) b d,.slice (some a) m c]).run P w=.ok (.slice (some ⟨g,0,none⟩) (b+m) d) (w.setRow g (cur.toList.take (b*i.size)++news++cur.toList.drop (b*i.size+news.length)).toArray):=by
 have v:=run_firstCells_some (P:=P) w i.size m a m c news r f;have l:=qN P g (b*i.size) p n news 0 cur w hg o (by simpa using k) s;simp only[Ec] at l;simp[Builtin.append_,run_underlying q,sizeOf,typeInfo,hi,Builtin.lenOf,h,v,Addr.add_lit,l]
def wR{F:js}{G:Nat->Nat}{k:Nat}:∀{rest:List Value} {m:Nat},rest.length=m->(∀u∈rest,u.oneCell'=true)->fi (eZ F G k) (qj m) rest
 |[],m,h,_=>by cases h;exact .nil
 |u::rest,m,h,a=>by
  cases h;show fi _ (List.replicate (rest.length+1) AV.undef) _;rw[RO];exact .cons (.undef (a u aas)) (wR rfl λv b=>a v (by simp[b]))
def GX{ρ:Maps}{F:js}{R:Nat->mP}(h:WR T n w0.heap.size ρ F R fr H a w)(hx:Ext w0.heap.size G0 F0 n0 w0 ρ.G F H.length w){c:Call}{dst:Option Nat}{ty:TypeId}{K:Fr->cc->Prop}
  (y:nJ P T c dst K fr H) (hd:∀d,dst=some d->d<n) (ar:∀x∈c.args.toList,gW x=true):∃v w' fr' H',(Builtin.append_ c.argTypes ty (c.args.map a.eval)).run P w=.ok v w'/\K fr' H'/\SR T n G0 F0 n0 w0 fr' H' (a.put dst v) w':=by
 unfold nJ at y
 split at y
 ·rename_i d s x t t' E aw;have e1:c.argTypes=#[t,t']:=Bz.1 (by rw[aw]);have e2:c.args.map a.eval=#[a.eval s,a.eval x]:=Bz.1 (by rw[KP,E];rfl);rw[e1,e2];have M:=eF h.env h.fM s (ar s (by rw[E];simp));have ax:=eF h.env h.fM x (ar x (by rw[E];simp))
  split at y
  ·rename_i e sz tag' m W aE;obtain⟨rfl,aF,ab,ae,y⟩:=y;rw[aE] at ax;obtain⟨aG,J,b2,o2,aX,r,aH,k,_,_⟩:=lX ax;have hm:m≠[]:=O5.1 ae;have ay:=pN aF k.sz;have X:=k.base hm
   have A:∀j v,r[j]?=some v->w.cell? ((⟨b2,o2,none⟩:Addr).add j)=some v:=by
    intro j v Q;rw[Addr.add_lit];exact h.g.Fz b2 _ v (k.has j v Q)
   have D:r.length=m.length*sz:=by rw[<-k.cells.length,mI ay]
   have N:fi (eZ F ρ.G ρ.n) (m.flatMap AV.cells) r:=k.cells.sy;have af:∀u∈r,u.oneCell'=true:=ia (N.mono λ_ _ _ h=>ir.p h) k.qu;obtain⟨i,z,hu,hi,hz,aY,ah,aZ,aU⟩:=lQ W
   have fin:∀{len f:Nat} {cells:List AV} {vs:Array Value},fi (eZ F ρ.G ρ.n) cells vs.toList->(∀c∈cells,c.ej=true)->len<=f->f<=maxLen->SR T n G0 F0 n0 w0 (fr.put (some d) (.oZ H.length 0 len f)) (H++[cells]) (a.put (some d) (.slice (some ⟨w.heap.size,0,none⟩) len f)) (w.drew.alloc (.cells vs e)):=by
    intro len f cells vs hc az h1 h2;refine qD h.drew hx.drew (.cells (.inl rfl) hc az) hd ?_;intro ρ' hG aI aJ;have:=eZ.oZ (F:=F) (G:=ρ'.G) (n:=ρ'.n) (o:=H.length) (off:=0) (len:=len) (cap:=f) (by rw[aJ];omega) h1 h2;rw[aI] at this;exact this
   rw[aH,X]
   split at y
   ·--a new row
    rename_i l hs;obtain⟨aK,L,y⟩:=y;rw[hs] at M;obtain⟨base,cap,b,o,a1,vs,S,I,ai,_⟩:=lX M;rw[S];have yd:cap=l.length:=ai rfl;have aA:=pN aK I.sz
    have Y:vs.length=l.length*sz:=by rw[<-I.cells.length,mI aA]
    have aL:base=none->l.length=0/\cap=0:=by
     rintro rfl
     have aM:l=[]:=by
      rcases XO l with h'|⟨_,_,h'⟩
      ·exact h'
      ·have:=I.base (by rw[h'];simp);cases this
     subst aM;exact⟨rfl,yd⟩
    have ho:∀Z,base=some Z->∀j v,vs[j]?=some v->w.cell? (Z.add j)=some v:=by
     intro Z ak j v Q
     have aB:l≠[]:=by
      rintro rfl;have:vs=[]:=zI (by simpa using Y);rw[this] at Q;simp at Q
     have:=I.base aB;rw[ak] at this;obtain rfl:=fS this;rw[Addr.add_lit];exact h.g.Fz b _ v (I.has j v Q)
    obtain⟨f,rest,B,U,O,V,q⟩:=mu w W ab ty base l.length cap vs Y aL ho ⟨b2,o2,none⟩ m.length J r D A VW L;refine⟨_,_,_,_,q,y f B,fin ?_ ?_ B U⟩
    ·simp only;exact(I.cells.sy.append N).append (wR O V)
    ·intro c hc;simp only[qO] at hc;rcases hc with(hc|hc)|hc
     ·exact I.qu c hc
     ·exact k.qu c hc
     ·exact wv _ c hc
   ·--an empty slice aC room
    rename_i hs;obtain⟨L,y⟩:=y;rw[hs] at M;obtain⟨base,S⟩:=LZ M;rw[S];obtain⟨f,rest,B,U,O,V,q⟩:=mu w W ab ty base 0 0 [] aas (λ_=>⟨rfl,rfl⟩) (by intro Z _ j v Q;simp at Q) ⟨b2,o2,none⟩ m.length J r D A VW VW;simp only[tu,m6] at B O q;refine⟨_,_,_,_,q,y f B,fin ?_ ?_ B U⟩
    ·simp only;exact N.append (wR O V)
    ·intro c hc;simp only[qO] at hc;rcases hc with hc|hc
     ·exact k.qu c hc
     ·exact wv _ c hc
   ·--a shared object
    rename_i o off len cap hs;obtain⟨rfl,L,y⟩:=y;rw[hs] at M;obtain⟨S,aD,aN,aO⟩:=FM M;rw[S]
    split at y
    ·rename_i cs hb;obtain⟨aa,aP,aQ,aR⟩:=y;obtain⟨ob,h4,h5⟩:=h.g.kQ o cs hb;obtain⟨cur,YY,fz,rfl,aS,h5,h6⟩:=h5.EN aa
     have aV:cur.size=cap*sz:=by rw[<-aP];simpa using h5.length.symm
     have hle:len*sz<=cap*sz:=Cb _ aN;rw[<-h.hn] at h5
     by_cases C:len+m.length<=cap
     ·have aW:len*sz+m.length*sz<=cap*sz:=by rw[<-yj];exact Cb _ C
      have q:=CF (P:=P) w t' ty e YY i hu hi (ρ.G o) len cap cur h4 aS ⟨b2,o2,none⟩ m.length J r (by rw[ah];exact D) A af C (by rw[ah];omega);rw[ah] at q;have dx:=h5.setCells N (len*sz);have ao:(m.flatMap AV.cells).length=r.length:=N.length
      have aq:∀c∈setCells cs (len*sz) (m.flatMap AV.cells),c.ej=true:=by
       intro c hc;simp only[setCells,qO] at hc;rcases hc with(hm|hm)|hm
       ·exact h6 c (AF hm)
       ·exact k.qu c hm
       ·exact h6 c (Gt hm)
      have aT:=h.OG (vs':=(cur.toList.take (len*sz)++r++cur.toList.drop (len*sz+r.length)).toArray) hb aa (by rw[<-ao];simpa[ao] using dx)
       (by simp only[setCells,ni,xn,M1,ao,D];omega) aq
      have nb:=aT.put (d:=some d) (by intro d' he;injection he with he;subst he;exact hd _ rfl) (x:=.oZ o 0 (len+m.length) cap) (v:=.slice (some ⟨ρ.G o,0,none⟩) (len+m.length) cap) (.cell (.p (.oZ aD C aO)));refine⟨_,_,_,_,q,aQ C,ρ,F,R,nb,?_⟩;rw[MP];exact hx.setRow (.inr ⟨o,by rw[<-h.hn];exact aD,rfl⟩) _
     ·have ho:∀Z,some (⟨ρ.G o,0,none⟩:Addr)=some Z->∀j v,(cur.toList.take (len*sz))[j]?=some v->w.cell? (Z.add j)=some v:=by
       intro Z ak j v Q;obtain rfl:=fS ak;rw[Addr.add_lit,tu,cell_of_row w _ _ cur YY fz h4];rw[E6] at Q
       split at Q
       ·simpa using Q
       ·cases Q
      obtain⟨f,rest,B,U,O,V,q⟩:=mu w W ab ty (some ⟨ρ.G o,0,none⟩) len cap (cur.toList.take (len*sz)) aaQ (by intro h;cases h) ho ⟨b2,o2,none⟩ m.length J r D A VW L;refine⟨_,_,_,_,q,aR f VW B,fin ?_ ?_ B U⟩
      ·simp only;exact((h5.take _).append N).append (wR O V)
      ·intro c hc;simp only[qO] at hc;rcases hc with(hc|hc)|hc
       ·exact h6 c (AF hc)
       ·exact k.qu c hc
       ·exact wv _ c hc
    ·exact y.elim
   ·exact y.elim
  ·exact y.elim
 ·exact y.elim
end
def wC(P:Program)(t:TypeId)(l c:AV):Option AV:=
 match nS P t,l,c with
 |some (e,sz),.sc (.int .i64 n),.sc (.int .i64 m)=>match zeroOf P e with
  |some z=>if m=n/\0<=n/\n<=1099511627776/\xi z=true/\sz=1 then some (.slice .full (List.replicate n.toNat (.sc z)))else none|none=>none
 |_,_,_=>none
section
variable{P:Program} {T:cV} {n:Nat} {G0:Nat->Nat} {F0:js} {n0:Nat} {w0:World} {fr:Fr} {H:cc} {a:Act} {w:World}
def fi.replicate{α β:Type}{R:α->β->Prop}{x:α}{y:β}(h:R x y):∀k,fi R (List.replicate k x) (List.replicate k y)
 |0=>.nil|k+1=>.cons h (fi.replicate h k)
def OR(z:Value):∀k,(List.replicate k (AV.sc z)).flatMap AV.cells=List.replicate k (AV.sc z)
 |0=>rfl|k+1=>by
  rw[RO,xS,OR z k];rfl
def SA{z:Value}(h:xi z=true):z.cells=#[z]:=by
 cases z<;>first|rfl|(simp[xi] at h)
def Mw(z:Value)(k:Nat):madeCells #[z] k=(List.replicate k z).toArray:=by
 apply Array.ext
 ·simp[madeCells]
 ·intro i a b;simp[madeCells,Nat.mod_one]
def D7{ρ:Maps}{F:js}{R:Nat->mP}(h:WR T n w0.heap.size ρ F R fr H a w)(hx:Ext w0.heap.size G0 F0 n0 w0 ρ.G F H.length w){t:Nat}{l c r:AV}{u v:Value}
  {dst:Option Nat} (s:wC P t l c=some r) (y:eJ F ρ l u) (hc:eJ F ρ c v) (hd:∀d,dst=some d->d<n):∃V w',(Instr.makeSlice t u v).run P w=.ok V w'/\SR T n G0 F0 n0 w0 (fr.put dst r) H (a.put dst V) w':=by
 unfold wC at s
 split at s
 ·rename_i e sz n1 W L
  split at s
  ·rename_i z B
   split at s
   ·rename_i M;obtain⟨rfl,h0,h1,C,rfl⟩:=M;have N:=SA C;cases s;cases eb y;cases eb hc;obtain⟨i,K,hu,hi,D,aa,O,ab,X⟩:=lQ L
    have Q:K=z:=by
     unfold zeroOf at B;rw[hi] at B;have B:i.zero=some z:=B;rw[D] at B;exact fS B
    subst Q;obtain⟨k,rfl⟩:∃k:Nat,W=k:=⟨W.toNat,VW⟩
    have f:=run_make (P:=P) w t e i K hu hi D .i64 .i64 (k:Int) k VW (PY _) (by
     have:(i.bytes:Int)*(k:Int)<=128*1099511627776:=Int.mul_le_mul VW h1 VW VW
     omega) VW
    rw[N,O,AM,U3,Mw] at f;obtain⟨us,E⟩:∃us,us=List.replicate k K:=⟨_,rfl⟩;obtain⟨l,y⟩:∃l,l=List.replicate k (AV.sc K):=⟨_,rfl⟩
    have Y:l.length=k:=by rw[y,List.length_replicate]
    have I:l.flatMap AV.cells=l:=by rw[y,OR]
    have m:fi (eZ F ρ.G ρ.n) (l.flatMap AV.cells) us:=by rw[I,y,E];exact fi.replicate (.sc C) k
    have A:∀x∈l.flatMap AV.cells,x.ej=true:=by
     intro x q;rw[I,y] at q;rw[(aaY.1 q).2];rfl
    have S:∀x∈l,x.cells.length=1:=λx q=>by
     rw[y] at q;rw[(aaY.1 q).2];rfl
    rw[<-E] at f;rw[AM,<-y]
    have Ak:k<=maxLen:=by simp only[maxLen];omega
    have J:=heap_alloc_new w (.cells us.toArray e);obtain⟨U,hw⟩:=(h.alloc (.cells us.toArray e)).freeze (us:=us) (k:=us.length) (h.ki _ (fT _)) (λj=>h.g.fresh _ j (fT _)) J (λu hu=>ia (m.mono λ_ _ _ h=>ir.p h) A u (by simpa using hu)) (by intro j v _ hv;simpa using hv);refine⟨_,_,f,ρ,_,R,hw.put hd (x:=.slice .full l) (v:=.slice (some ⟨w.heap.size,0,none⟩) k k) ?_,?_⟩
    ·have Z:=eZ.slice (F:=iX F w.heap.size us.length us) (G:=ρ.G) (n:=ρ.n) (tag:=.full) (l:=l) (b:=w.heap.size) (o:=0) (base:=some ⟨w.heap.size,0,none⟩) (cap:=l.length) (sz:=1)
      (.nK (m.mono λ_ _ _ h=>h.grow U.g)) (uG _ _ _) (λ_=>rfl) S A (fT _) (by rw[Y];exact Ak) (.inr ⟨rfl,rfl⟩)
     rw[Y] at Z;exact .p Z
    ·exact(hx.alloc h.oY (.cells us.toArray e)).freeze (F':=iX F w.heap.size us.length us) λb j s=>rO (by have:=h.oY;omega)
   ·cases s
  ·cases s
 ·cases s
end
end Go.jN
