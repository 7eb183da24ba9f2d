/- Part of the proof of SchemeChains: layer. -/
import Derived.Laws.MakeOwn
import Derived.Test.YtpgdkkomegalnaaGreatDoorHL4
set_option linter.all false
namespace Go.lD
open Go
def pS(P:Program)(T:eK)(c:Call)(dst:Option Nat)(K:Fr->dV->Prop)(fr:Fr)(H:dV):Prop:=
 match dst,c.args.toList,c.argTypes.toList with
 |some d,[s,x],[t,b]=>
  match oA P t,ev T fr x with
  |some (e,sz),.slice _ m=>
   b=t/\lG sz m=true/\(jH P e).isSome=true/\0<m.length/\match ev T fr s with
   |.slice .full l=>lG sz l=true/\l.length+m.length<=kG/\∀cap,l.length+m.length<=cap->K (fr.put (some d) (.zF H.length 0 (l.length+m.length) cap)) (H++[l.flatMap AV.cells++m.flatMap AV.cells++yZ ((cap-(l.length+m.length))*sz)])|.Ps=>m.length<=kG/\∀cap,m.length<=cap->K (fr.put (some d) (.zF H.length 0 m.length cap)) (H++[m.flatMap AV.cells++yZ ((cap-m.length)*sz)])|.zF o off len cap=>off=0/\len+m.length<=kG/\match H[o]?with
    |some cs=>uZ cs=true/\cs.length=cap*sz/\(len+m.length<=cap->K (fr.put (some d) (.zF o 0 (len+m.length) cap)) (H.set o (setCells cs (len*sz) (m.flatMap AV.cells))))/\(∀a,cap<len+m.length->len+m.length<=a->K (fr.put (some d) (.zF H.length 0 (len+m.length) a)) (H++[cs.take (len*sz)++m.flatMap AV.cells++yZ ((a-(len+m.length))*sz)]))|none=>False
   |_=>False
  |_,_=>False
 |_,_,_=>False
section
variable{P:Program} {T:eK} {n:Nat} {G0:Nat->Nat} {F0:la} {n0:Nat} {w0:World} {fr:Fr} {H:dV} {a:Act} {w:World}
def F4(w:World)(t ty e q:TypeId)(i:TypeInfo)(r:P.underlying t=some (.slice e))(hi:P.info? e=some i)
  (g b d:Nat) (cur:Array Value) {l:Nat×Nat} (hg:w.heap[g]?=some (.cells cur q l)) (n:Uo l cur.size)
  (a:Addr) (m c:Nat) (news:List Value) (s:news.length=m*i.size) (f:∀j u,news[j]?=some u->w.cell? (a.add j)=some u) (v:∀u∈news,u.oneCell'=true)
  (h:b+m<=d) (k:b*i.size+news.length<=cur.size):(Builtin.append_ #[t,t] ty #[.slice (some ⟨g,0,none⟩) b d,.slice (some a) m c]).run P w=.ok (.slice (some ⟨g,0,none⟩) (b+m) d) (w.setRow g (cur.toList.take (b*i.size)++news++cur.toList.drop (b*i.size+news.length)).toArray):=by
 have x:=run_firstCells_some (P:=P) w i.size m a m c news s f;have o:=tf P g (b*i.size) q l news 0 cur w hg n (by simpa using k) v;simp[Builtin.append_,run_underlying r,sizeOf,typeInfo,hi,Builtin.lenOf,h,x,Addr.add_lit,o]
def zm{F:la}{G:Nat->Nat}{k:Nat}:∀{rest:List Value} {m:Nat},rest.length=m->(∀u∈rest,u.oneCell'=true)->hS (gT F G k) (yZ m) rest
 |[],m,h,_=>by cases h;exact .nil
 |u::rest,m,h,a=>by
  cases h;exact .cons (.undef (a u abm)) (zm rfl λv b=>a v (by simp[b]))
def Lz{ρ:Maps}{F:la}{R:Nat->oY}(h:WR T n w0.heap.size ρ F R fr H a w)(hx:Ext w0.heap.size G0 F0 n0 w0 ρ.G F H.length w){c:Call}{dst:Option Nat}{ty:TypeId}{K:Fr->dV->Prop}
  (y:pS P T c dst K fr H) (hd:∀d,dst=some d->d<n) (ax:∀x∈c.args.toList,jw x=true):∃v w' fr' H',(Builtin.append_ c.argTypes ty (c.args.map a.eval)).run P w=.ok v w'/\K fr' H'/\SR T n G0 F0 n0 w0 fr' H' (a.put dst v) w':=by
 unfold pS at y
 split at y
 .rename_i d s x t t' I ay;have e1:c.argTypes=#[t,t']:=F2.1 (by rw[ay]);have e2:c.args.map a.eval=#[a.eval s,a.eval x]:=F2.1 (by rw[PK,I];rfl);rw[e1,e2];have N:=gG h.env h.iu s (ax s (by rw[I];simp));have az:=gG h.env h.iu x (ax x (by rw[I];simp))
  split at y
  .rename_i e sz aW m X aG;obtain⟨rfl,aH,af,ah,y⟩:=y;rw[aG] at az;obtain⟨aI,L,b2,o2,a1,r,aJ,k,_,_⟩:=n7 az;have hm:m≠[]:=Xy.1 ah;have aA:=rU aH k.sz;have Y:=k.base hm
   have A:∀j v,r[j]?=some v->w.cell? ((⟨b2,o2,none⟩:Addr).add j)=some v:=by
    intro j v S;rw[Addr.add_lit];exact h.g.GL b2 _ v (k.has j v S)
   have D:r.length=m.length*sz:=by rw[<-k.cells.length,oL aA]
   have O:hS (gT F ρ.G ρ.n) (m.flatMap AV.cells) r:=k.cells.rV;have ai:∀u∈r,u.oneCell'=true:=jS (O.mono λ_ _ _ h=>j5.p h) k.s7;obtain⟨i,z,hu,hi,hz,a6,ak,a7,aX⟩:=nC X
   have fin:∀{len f:Nat} {cells:List AV} {vs:Array Value},hS (gT F ρ.G ρ.n) cells vs.toList->(∀c∈cells,c.gO=true)->len<=f->f<=maxLen->SR T n G0 F0 n0 w0 (fr.put (some d) (.zF H.length 0 len f)) (H++[cells]) (a.put (some d) (.slice (some ⟨w.heap.size,0,none⟩) len f)) (w.drew.alloc (.cells vs e)):=by
    intro len f cells vs hc aB h1 h2;refine sZ h.drew hx.drew (.cells (.inl rfl) hc aB) hd ?_;intro ρ' hG aK aL;have:=gT.zF (F:=F) (G:=ρ'.G) (n:=ρ'.n) (o:=H.length) (off:=0) (len:=len) (cap:=f) (by rw[aL];omega) h1 h2;rw[aK] at this;exact this
   rw[aJ,Y]
   split at y
   .--a new row
    rename_i l hs;obtain⟨aM,M,y⟩:=y;rw[hs] at N;obtain⟨base,cap,b,o,a8,vs,U,J,ao,_⟩:=n7 N;rw[U];have BT:cap=l.length:=ao rfl;have aC:=rU aM J.sz
    have Z:vs.length=l.length*sz:=by rw[<-J.cells.length,oL aC]
    have aN:base=none->l.length=0/\cap=0:=by
     rintro rfl
     have aO:l=[]:=by
      rcases agw l with h'|⟨_,_,h'⟩
      .exact h'
      .have:=J.base (by rw[h'];simp);cases this
     subst aO;exact⟨rfl,BT⟩
    have ho:∀ad,base=some ad->∀j v,vs[j]?=some v->w.cell? (ad.add j)=some v:=by
     intro ad aq j v S
     have aD:l≠[]:=by
      rintro rfl;have:vs=[]:=Cd (by simpa using Z);rw[this] at S;simp at S
     have:=J.base aD;rw[aq] at this;obtain rfl:=hU this;rw[Addr.add_lit];exact h.g.GL b _ v (J.has j v S)
    obtain⟨f,rest,B,V,Q,W,q⟩:=om w X af ty base l.length cap vs Z aN ho ⟨b2,o2,none⟩ m.length L r D A VW M;refine⟨_,_,_,_,q,y f B,fin ?_ ?_ B V⟩
    .simp only;exact(J.cells.rV.append O).append (zm Q W)
    .intro c hc;simp only[tl] at hc;rcases hc with(hc|hc)|hc
     .exact J.s7 c hc
     .exact k.s7 c hc
     .exact xX _ c hc
   .--an empty slice aE room
    rename_i hs;obtain⟨M,y⟩:=y;rw[hs] at N;obtain⟨base,U⟩:=QN N;rw[U];obtain⟨f,rest,B,V,Q,W,q⟩:=om w X af ty base 0 0 [] abm (λ_=>⟨rfl,rfl⟩) (by intro ad _ j v S;simp at S) ⟨b2,o2,none⟩ m.length L r D A VW VW;simp only[vo,n9] at B Q q;refine⟨_,_,_,_,q,y f B,fin ?_ ?_ B V⟩
    .simp only;exact O.append (zm Q W)
    .intro c hc;simp only[tl] at hc;rcases hc with hc|hc
     .exact k.s7 c hc
     .exact xX _ c hc
   .--a shared object
    rename_i o off len cap hs;obtain⟨rfl,M,y⟩:=y;rw[hs] at N;obtain⟨U,aF,aP,aQ⟩:=JY N;rw[U]
    split at y
    .rename_i cs hb;obtain⟨ae,aR,aS,aT⟩:=y;obtain⟨ob,h4,h5⟩:=h.g.ma o cs hb;obtain⟨cur,Pn,fz,rfl,aU,h5,h6⟩:=h5.HR ae
     have aY:cur.size=cap*sz:=by rw[<-aR];simpa using h5.length.symm
     have hle:len*sz<=cap*sz:=Ki _ aP;rw[<-h.hn] at h5
     by_cases C:len+m.length<=cap
     .have aZ:len*sz+m.length*sz<=cap*sz:=by rw[<-Ce];exact Ki _ C
      have q:=F4 (P:=P) w t' ty e Pn i hu hi (ρ.G o) len cap cur h4 aU ⟨b2,o2,none⟩ m.length L r (by rw[ak];exact D) A ai C (by rw[ak];omega);rw[ak] at q;have gk:=h5.setCells O (len*sz);have ar:(m.flatMap AV.cells).length=r.length:=O.length
      have aw:∀c∈setCells cs (len*sz) (m.flatMap AV.cells),c.gO=true:=by
       intro c hc;simp only[setCells,tl] at hc;rcases hc with(hm|hm)|hm
       .exact h6 c (C' hm)
       .exact k.s7 c hm
       .exact h6 c (Hp hm)
      have aV:=h.UN (vs':=(cur.toList.take (len*sz)++r++cur.toList.drop (len*sz+r.length)).toArray) hb ae (by rw[<-ar];simpa[ar] using gk)
       (by simp only[setCells,oV,Dy,WL,ar,D];omega) aw
      have kB:=aV.put (d:=some d) (by intro d' he;injection he with he;subst he;exact hd _ rfl) (x:=.zF o 0 (len+m.length) cap) (v:=.slice (some ⟨ρ.G o,0,none⟩) (len+m.length) cap) (.cell (.p (.zF aF C aQ)));refine⟨_,_,_,_,q,aS C,ρ,F,R,kB,?_⟩;rw[YG];exact hx.setRow (.inr ⟨o,by rw[<-h.hn];exact aF,rfl⟩) _
     .have ho:∀ad,some (⟨ρ.G o,0,none⟩:Addr)=some ad->∀j v,(cur.toList.take (len*sz))[j]?=some v->w.cell? (ad.add j)=some v:=by
       intro ad aq j v S;obtain rfl:=hU aq;rw[Addr.add_lit,vo,cell_of_row w _ _ cur Pn fz h4];rw[TC] at S
       split at S
       .simpa using S
       .cases S
      obtain⟨f,rest,B,V,Q,W,q⟩:=om w X af ty (some ⟨ρ.G o,0,none⟩) len cap (cur.toList.take (len*sz)) abv (by intro h;cases h) ho ⟨b2,o2,none⟩ m.length L r D A VW M;refine⟨_,_,_,_,q,aT f VW B,fin ?_ ?_ B V⟩
      .simp only;exact((h5.take _).append O).append (zm Q W)
      .intro c hc;simp only[tl] at hc;rcases hc with(hc|hc)|hc
       .exact h6 c (C' hc)
       .exact k.s7 c hc
       .exact xX _ c hc
    .exact y.elim
   .exact y.elim
  .exact y.elim
 .exact y.elim
end
def zB(P:Program)(t:TypeId)(l c:AV):Option AV:=
 match oA P t,l,c with
 |some (e,sz),.sc (.int .i64 n),.sc (.int .i64 m)=>match zeroOf P e with
  |some z=>if m=n/\0<=n/\n<=549755813888/\yP z=true/\sz=1 then some (.slice .full (List.replicate n.toNat (.sc z)))else none|none=>none
 |_,_,_=>none
section
variable{P:Program} {T:eK} {n:Nat} {G0:Nat->Nat} {F0:la} {n0:Nat} {w0:World} {fr:Fr} {H:dV} {a:Act} {w:World}
def hS.replicate{α β:Type}{R:α->β->Prop}{x:α}{y:β}(h:R x y):∀k,hS R (List.replicate k x) (List.replicate k y)
 |0=>.nil|k+1=>.cons h (hS.replicate h k)
def Vj(z:Value):∀k,(List.replicate k (AV.sc z)).flatMap AV.cells=List.replicate k (AV.sc z)
 |0=>rfl|k+1=>by
  rw[List.replicate_succ,I3,Vj z k];rfl
def abd{z:Value}(h:yP z=true):z.cells=#[z]:=by
 cases z<;>first|rfl|(simp[yP] at h)
def Sn(z:Value)(k:Nat):madeCells #[z] k=(List.replicate k z).toArray:=by
 apply Array.ext
 .simp[madeCells]
 .simp[madeCells,Nat.mod_one]
def G2{ρ:Maps}{F:la}{R:Nat->oY}(h:WR T n w0.heap.size ρ F R fr H a w)(hx:Ext w0.heap.size G0 F0 n0 w0 ρ.G F H.length w){t:Nat}{l c r:AV}{u v:Value}
  {dst:Option Nat} (y:zB P t l c=some r) (A:gI F ρ l u) (hc:gI F ρ c v) (hd:∀d,dst=some d->d<n):∃X w',(Instr.makeSlice t u v).run P w=.ok X w'/\SR T n G0 F0 n0 w0 (fr.put dst r) H (a.put dst X) w':=by
 unfold zB at y
 split at y
 .rename_i e sz n1 Y N
  split at y
  .rename_i z C
   split at y
   .rename_i O;obtain⟨rfl,h0,h1,D,rfl⟩:=O;have Q:=abd D;cases y;cases gr A;cases gr hc;obtain⟨i,M,hu,hi,I,ad,S,ae,Z⟩:=nC N
    have U:M=z:=by
     unfold zeroOf at C;rw[hi] at C;have C:i.zero=some z:=C;rw[I] at C;exact hU C
    subst U;obtain⟨k,rfl⟩:∃k:Nat,Y=k:=⟨Y.toNat,VW⟩
    have f:=run_make (P:=P) w t e i M hu hi I .i64 .i64 (k:Int) k VW (Hu _) (by
     have:(i.bytes:Int)*(k:Int)<=256*549755813888:=Int.mul_le_mul VW h1 VW VW
     omega) VW
    rw[Q,S,BS,Nat.mul_one,Sn] at f;obtain⟨us,J⟩:∃us,us=List.replicate k M:=⟨_,rfl⟩;obtain⟨l,A⟩:∃l,l=List.replicate k (AV.sc M):=⟨_,rfl⟩
    have hk:l.length=k:=by rw[A,List.length_replicate]
    have K:l.flatMap AV.cells=l:=by rw[A,Vj]
    have q:hS (gT F ρ.G ρ.n) (l.flatMap AV.cells) us:=by rw[K,A,J];exact hS.replicate (.sc D) k
    have B:∀x∈l.flatMap AV.cells,x.gO=true:=by
     intro x s;rw[K,A] at s;rw[(alg.1 s).2];rfl
    have V:∀x∈l,x.cells.length=1:=λx s=>by
     rw[A] at s;rw[(alg.1 s).2];rfl
    rw[<-J] at f;rw[BS,<-A]
    have EH:k<=maxLen:=by simp only[maxLen];omega
    have L:=heap_alloc_new w (.cells us.toArray e);obtain⟨W,hw⟩:=(h.alloc (.cells us.toArray e)).freeze (us:=us) (k:=us.length) (h.lZ _ (gY _)) (λj=>h.g.fresh _ j (gY _)) L (λu hu=>jS (q.mono λ_ _ _ h=>j5.p h) B u (by simpa using hu)) (by intro j v _ hv;simpa using hv);refine⟨_,_,f,ρ,_,R,hw.put hd (x:=.slice .full l) (v:=.slice (some ⟨w.heap.size,0,none⟩) k k) ?_,?_⟩
    .have hp:=gT.slice (F:=kH F w.heap.size us.length us) (G:=ρ.G) (n:=ρ.n) (tag:=.full) (l:=l) (b:=w.heap.size) (o:=0) (base:=some ⟨w.heap.size,0,none⟩) (cap:=l.length) (sz:=1)
      (.pV (q.mono λ_ _ _ h=>h.grow W.g)) (xk _ _ _) (λ_=>rfl) V B (gY _) (by rw[hk];exact EH) (.inr ⟨rfl,rfl⟩)
     rw[hk] at hp;exact .p hp
    .exact(hx.alloc h.q8 (.cells us.toArray e)).freeze (F':=kH F w.heap.size us.length us) λb j y=>uf (by have:=h.q8;omega)
   .cases y
  .cases y
 .cases y
end
end Go.lD
