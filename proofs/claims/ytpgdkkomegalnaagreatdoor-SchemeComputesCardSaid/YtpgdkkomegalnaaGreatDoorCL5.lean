/- Part of the proof of SchemeComputes: layer. -/
import Derived.Laws.MakeOwn
import Derived.Test.YtpgdkkomegalnaaGreatDoorCL4
set_option linter.all false
namespace Go.ld
open Go
def pd(P:Program)(T:eO)(c:Call)(dst:Option Nat)(K:Fr->dZ->Prop)(fr:Fr)(H:dZ):Prop:=
 match dst,c.args.toList,c.argTypes.toList with
 |some d,[s,x],[t,b]=>
  match oM P t,ev T fr x with
  |some (e,sz),.slice _ m=>
   b=t/\lp sz m=true/\(kj P e).isSome=true/\0<m.length/\match ev T fr s with
   |.slice .full l=>lp sz l=true/\l.length+m.length<=kG/\∀cap,l.length+m.length<=cap->K (fr.put (some d) (.z' H.length 0 (l.length+m.length) cap)) (H++[l.flatMap AV.cells++m.flatMap AV.cells++zd ((cap-(l.length+m.length))*sz)])|.NX=>m.length<=kG/\∀cap,m.length<=cap->K (fr.put (some d) (.z' H.length 0 m.length cap)) (H++[m.flatMap AV.cells++zd ((cap-m.length)*sz)])|.z' o off len cap=>off=0/\len+m.length<=kG/\match H[o]?with
    |some cs=>vu cs=true/\cs.length=cap*sz/\(len+m.length<=cap->K (fr.put (some d) (.z' o 0 (len+m.length) cap)) (H.set o (setCells cs (len*sz) (m.flatMap AV.cells))))/\(∀a,cap<len+m.length->len+m.length<=a->K (fr.put (some d) (.z' H.length 0 (len+m.length) a)) (H++[cs.take (len*sz)++m.flatMap AV.cells++zd ((a-(len+m.length))*sz)]))|none=>False
   |_=>False
  |_,_=>False
 |_,_,_=>False
section
variable{P:Program} {T:eO} {n:Nat} {G0:Nat->Nat} {F0:kT} {n0:Nat} {w0:World} {fr:Fr} {H:dZ} {a:Act} {w:World}
def FY(w:World)(t ty e q:TypeId)(i:TypeInfo)(r:P.underlying t=some (.slice e))(hi:P.info? e=some i)
  (g b d:Nat) (cur:Array Value) {l:Nat×Nat} (hg:w.heap[g]?=some (.cells cur q l)) (n:QD l cur.size)
  (a:Addr) (m c:Nat) (news:List Value) (s:news.length=m*i.size) (f:∀j u,news[j]?=some u->w.cell? (a.add j)=some u) (v:∀u∈news,u.oneCell'=true)
  (h:b+m<=d) (k:b*i.size+news.length<=cur.size):(Builtin.append_ #[t,t] ty #[.slice (some ⟨g,0,none⟩) b d,.slice (some a) m c]).run P w=.ok (.slice (some ⟨g,0,none⟩) (b+m) d) (w.setRow g (cur.toList.take (b*i.size)++news++cur.toList.drop (b*i.size+news.length)).toArray):=by
 have x:=run_firstCells_some (P:=P) w i.size m a m c news s f;have o:=sR P g (b*i.size) q l news 0 cur w hg n (by simpa using k) v;simp[Builtin.append_,run_underlying r,sizeOf,typeInfo,hi,Builtin.lenOf,h,x,Addr.add_lit,o]
def zN{F:kT}{G:Nat->Nat}{k:Nat}:∀{rest:List Value} {m:Nat},rest.length=m->(∀u∈rest,u.oneCell'=true)->hQ (gR F G k) (zd m) rest
 |[],m,h,_=>by cases h;exact .nil
 |u::rest,m,h,a=>by
  cases h;exact .cons (.undef (a u aaA)) (zN rfl λv b=>a v (by simp[b]))
def KM{ρ:Maps}{F:kT}{R:Nat->oz}(h:WR T n w0.heap.size ρ F R fr H a w)(hx:Ext w0.heap.size G0 F0 n0 w0 ρ.G F H.length w){c:Call}{dst:Option Nat}{ty:TypeId}{K:Fr->dZ->Prop}
  (y:pd P T c dst K fr H) (hd:∀d,dst=some d->d<n) (ax:∀x∈c.args.toList,jq x=true):∃v w' fr' H',(Builtin.append_ c.argTypes ty (c.args.map a.eval)).run P w=.ok v w'/\K fr' H'/\SR T n G0 F0 n0 w0 fr' H' (a.put dst v) w':=by
 unfold pd at y
 split at y
 ·rename_i d s x t t' I ay;have e1:c.argTypes=#[t,t']:=Gp.1 (by rw[ay]);have e2:c.args.map a.eval=#[a.eval s,a.eval x]:=Gp.1 (by rw[PZ,I];rfl);rw[e1,e2];have N:=gH h.env h.iy s (ax s (by rw[I];simp));have az:=gH h.env h.iy x (ax x (by rw[I];simp))
  split at y
  ·rename_i e sz aW m X aG;obtain⟨rfl,aH,af,ah,y⟩:=y;rw[aG] at az;obtain⟨aI,L,b2,o2,a1,r,aJ,k,_,_⟩:=ny az;have hm:m≠[]:=UP.1 ah;have aA:=ru aH k.sz;have Y:=k.base hm
   have A:∀j v,r[j]?=some v->w.cell? ((⟨b2,o2,none⟩:Addr).add j)=some v:=by
    intro j v S;rw[Addr.add_lit];exact h.g.G5 b2 _ v (k.has j v S)
   have D:r.length=m.length*sz:=by rw[<-k.cells.length,oo aA]
   have O:hQ (gR F ρ.G ρ.n) (m.flatMap AV.cells) r:=k.cells.qF;have ai:∀u∈r,u.oneCell'=true:=jL (O.mono λ_ _ _ h=>jZ.p h) k.so;obtain⟨i,z,hu,hi,hz,a6,ak,a7,aX⟩:=nq X
   have fin:∀{len f:Nat} {cells:List AV} {vs:Array Value},hQ (gR F ρ.G ρ.n) cells vs.toList->(∀c∈cells,c.gO=true)->len<=f->f<=maxLen->SR T n G0 F0 n0 w0 (fr.put (some d) (.z' H.length 0 len f)) (H++[cells]) (a.put (some d) (.slice (some ⟨w.heap.size,0,none⟩) len f)) (w.drew.alloc (.cells vs e)):=by
    intro len f cells vs hc aB h1 h2;refine sQ h.drew hx.drew (.cells (.inl rfl) hc aB) hd ?_;intro ρ' hG aK aL;have:=gR.z' (F:=F) (G:=ρ'.G) (n:=ρ'.n) (o:=H.length) (off:=0) (len:=len) (cap:=f) (by rw[aL];omega) h1 h2;rw[aK] at this;exact this
   rw[aJ,Y]
   split at y
   ·--a new row
    rename_i l hs;obtain⟨aM,M,y⟩:=y;rw[hs] at N;obtain⟨base,cap,b,o,a8,vs,U,J,ao,_⟩:=ny N;rw[U];have Cu:cap=l.length:=ao rfl;have aC:=ru aM J.sz
    have Z:vs.length=l.length*sz:=by rw[<-J.cells.length,oo aC]
    have aN:base=none->l.length=0/\cap=0:=by
     rintro rfl
     have aO:l=[]:=by
      rcases ad2 l with h'|⟨_,_,h'⟩
      ·exact h'
      ·have:=J.base (by rw[h'];simp);cases this
     subst aO;exact⟨rfl,Cu⟩
    have ho:∀ad,base=some ad->∀j v,vs[j]?=some v->w.cell? (ad.add j)=some v:=by
     intro ad aq j v S
     have aD:l≠[]:=by
      rintro rfl;have:vs=[]:=Cw (by simpa using Z);rw[this] at S;simp at S
     have:=J.base aD;rw[aq] at this;obtain rfl:=kX this;rw[Addr.add_lit];exact h.g.G5 b _ v (J.has j v S)
    obtain⟨f,rest,B,V,Q,W,q⟩:=nY w X af ty base l.length cap vs Z aN ho ⟨b2,o2,none⟩ m.length L r D A VW M;refine⟨_,_,_,_,q,y f B,fin ?_ ?_ B V⟩
    ·simp only;exact(J.cells.qF.append O).append (zN Q W)
    ·intro c hc;simp only[tO] at hc;rcases hc with(hc|hc)|hc
     ·exact J.so c hc
     ·exact k.so c hc
     ·exact yw _ c hc
   ·--an empty slice aE room
    rename_i hs;obtain⟨M,y⟩:=y;rw[hs] at N;obtain⟨base,U⟩:=OX N;rw[U];obtain⟨f,rest,B,V,Q,W,q⟩:=nY w X af ty base 0 0 [] aaA (λ_=>⟨rfl,rfl⟩) (by intro ad _ j v S;simp at S) ⟨b2,o2,none⟩ m.length L r D A VW VW;simp only[Ax,oa] at B Q q;refine⟨_,_,_,_,q,y f B,fin ?_ ?_ B V⟩
    ·simp only;exact O.append (zN Q W)
    ·intro c hc;simp only[tO] at hc;rcases hc with hc|hc
     ·exact k.so c hc
     ·exact yw _ c hc
   ·--a shared object
    rename_i o off len cap hs;obtain⟨rfl,M,y⟩:=y;rw[hs] at N;obtain⟨U,aF,aP,aQ⟩:=J9 N;rw[U]
    split at y
    ·rename_i cs hb;obtain⟨ae,aR,aS,aT⟩:=y;obtain⟨ob,h4,h5⟩:=h.g.lW o cs hb;obtain⟨cur,KG,fz,rfl,aU,h5,h6⟩:=h5.Iz ae
     have aY:cur.size=cap*sz:=by rw[<-aR];simpa using h5.length.symm
     have hle:len*sz<=cap*sz:=Lx _ aP;rw[<-h.hn] at h5
     by_cases C:len+m.length<=cap
     ·have aZ:len*sz+m.length*sz<=cap*sz:=by rw[<-DS];exact Lx _ C
      have q:=FY (P:=P) w t' ty e KG i hu hi (ρ.G o) len cap cur h4 aU ⟨b2,o2,none⟩ m.length L r (by rw[ak];exact D) A ai C (by rw[ak];omega);rw[ak] at q;have gx:=h5.setCells O (len*sz);have ar:(m.flatMap AV.cells).length=r.length:=O.length
      have aw:∀c∈setCells cs (len*sz) (m.flatMap AV.cells),c.gO=true:=by
       intro c hc;simp only[setCells,tO] at hc;rcases hc with(hm|hm)|hm
       ·exact h6 c (DE hm)
       ·exact k.so c hm
       ·exact h6 c (Ib hm)
      have aV:=h.S_ (vs':=(cur.toList.take (len*sz)++r++cur.toList.drop (len*sz+r.length)).toArray) hb ae (by rw[<-ar];simpa[ar] using gx)
       (by simp only[setCells,nB,Dl,T6,ar,D];omega) aw
      have Rc:=aV.put (d:=some d) (by intro d' he;injection he with he;subst he;exact hd _ rfl) (x:=.z' o 0 (len+m.length) cap) (v:=.slice (some ⟨ρ.G o,0,none⟩) (len+m.length) cap) (.cell (.p (.z' aF C aQ)));refine⟨_,_,_,_,q,aS C,ρ,F,R,Rc,?_⟩;rw[YK];exact hx.setRow (.inr ⟨o,by rw[<-h.hn];exact aF,rfl⟩) _
     ·have ho:∀ad,some (⟨ρ.G o,0,none⟩:Addr)=some ad->∀j v,(cur.toList.take (len*sz))[j]?=some v->w.cell? (ad.add j)=some v:=by
       intro ad aq j v S;obtain rfl:=kX aq;rw[Addr.add_lit,Ax,cell_of_row w _ _ cur KG fz h4];rw[Sh] at S
       split at S
       ·simpa using S
       ·cases S
      obtain⟨f,rest,B,V,Q,W,q⟩:=nY w X af ty (some ⟨ρ.G o,0,none⟩) len cap (cur.toList.take (len*sz)) abu (by intro h;cases h) ho ⟨b2,o2,none⟩ m.length L r D A VW M;refine⟨_,_,_,_,q,aT f VW B,fin ?_ ?_ B V⟩
      ·simp only;exact((h5.take _).append O).append (zN Q W)
      ·intro c hc;simp only[tO] at hc;rcases hc with(hc|hc)|hc
       ·exact h6 c (DE hc)
       ·exact k.so c hc
       ·exact yw _ c hc
    ·exact y.elim
   ·exact y.elim
  ·exact y.elim
 ·exact y.elim
end
def zg(P:Program)(t:TypeId)(l c:AV):Option AV:=
 match oM P t,l,c with
 |some (e,sz),.sc (.int .i64 n),.sc (.int .i64 m)=>match zeroOf P e with
  |some z=>if m=n/\0<=n/\n<=549755813888/\zs z=true/\sz=1 then some (.slice .full (List.replicate n.toNat (.sc z)))else none|none=>none
 |_,_,_=>none
section
variable{P:Program} {T:eO} {n:Nat} {G0:Nat->Nat} {F0:kT} {n0:Nat} {w0:World} {fr:Fr} {H:dZ} {a:Act} {w:World}
def hQ.replicate{α β:Type}{R:α->β->Prop}{x:α}{y:β}(h:R x y):∀k,hQ R (List.replicate k x) (List.replicate k y)
 |0=>.nil|k+1=>.cons h (hQ.replicate h k)
def Tg(z:Value):∀k,(List.replicate k (AV.sc z)).flatMap AV.cells=List.replicate k (AV.sc z)
 |0=>rfl|k+1=>by
  rw[List.replicate_succ,JU,Tg z k];rfl
def Xm{z:Value}(h:zs z=true):z.cells=#[z]:=by
 cases z<;>first|rfl|(simp[zs] at h)
def R4(z:Value)(k:Nat):madeCells #[z] k=(List.replicate k z).toArray:=by
 apply Array.ext
 ·simp[madeCells]
 ·simp[madeCells,Nat.mod_one]
def HR{ρ:Maps}{F:kT}{R:Nat->oz}(h:WR T n w0.heap.size ρ F R fr H a w)(hx:Ext w0.heap.size G0 F0 n0 w0 ρ.G F H.length w){t:Nat}{l c r:AV}{u v:Value}
  {dst:Option Nat} (y:zg P t l c=some r) (A:gI F ρ l u) (hc:gI F ρ c v) (hd:∀d,dst=some d->d<n):∃X w',(Instr.makeSlice t u v).run P w=.ok X w'/\SR T n G0 F0 n0 w0 (fr.put dst r) H (a.put dst X) w':=by
 unfold zg at y
 split at y
 ·rename_i e sz n1 Y N
  split at y
  ·rename_i z C
   split at y
   ·rename_i O;obtain⟨rfl,h0,h1,D,rfl⟩:=O;have Q:=Xm D;cases y;cases gl A;cases gl hc;obtain⟨i,M,hu,hi,I,ad,S,ae,Z⟩:=nq N
    have U:M=z:=by
     unfold zeroOf at C;rw[hi] at C;have C:i.zero=some z:=C;rw[I] at C;exact kX C
    subst U;obtain⟨k,rfl⟩:∃k:Nat,Y=k:=⟨Y.toNat,VW⟩
    have f:=run_make (P:=P) w t e i M hu hi I .i64 .i64 (k:Int) k VW (KZ _) (by
     have:(i.bytes:Int)*(k:Int)<=256*549755813888:=Int.mul_le_mul VW h1 VW VW
     omega) VW
    rw[Q,S,Ea,Nat.mul_one,R4] at f;obtain⟨us,J⟩:∃us,us=List.replicate k M:=⟨_,rfl⟩;obtain⟨l,A⟩:∃l,l=List.replicate k (AV.sc M):=⟨_,rfl⟩
    have hk:l.length=k:=by rw[A,List.length_replicate]
    have K:l.flatMap AV.cells=l:=by rw[A,Tg]
    have q:hQ (gR F ρ.G ρ.n) (l.flatMap AV.cells) us:=by rw[K,A,J];exact hQ.replicate (.sc D) k
    have B:∀x∈l.flatMap AV.cells,x.gO=true:=by
     intro x s;rw[K,A] at s;rw[(ah'.1 s).2];rfl
    have V:∀x∈l,x.cells.length=1:=λx s=>by
     rw[A] at s;rw[(ah'.1 s).2];rfl
    rw[<-J] at f;rw[Ea,<-A]
    have EC:k<=maxLen:=by simp only[maxLen];omega
    have L:=heap_alloc_new w (.cells us.toArray e);obtain⟨W,hw⟩:=(h.alloc (.cells us.toArray e)).freeze (us:=us) (k:=us.length) (h.lL _ (g_ _)) (λj=>h.g.fresh _ j (g_ _)) L (λu hu=>jL (q.mono λ_ _ _ h=>jZ.p h) B u (by simpa using hu)) (by intro j v _ hv;simpa using hv);refine⟨_,_,f,ρ,_,R,hw.put hd (x:=.slice .full l) (v:=.slice (some ⟨w.heap.size,0,none⟩) k k) ?_,?_⟩
    ·have hp:=gR.slice (F:=kx F w.heap.size us.length us) (G:=ρ.G) (n:=ρ.n) (tag:=.full) (l:=l) (b:=w.heap.size) (o:=0) (base:=some ⟨w.heap.size,0,none⟩) (cap:=l.length) (sz:=1)
      (.pc (q.mono λ_ _ _ h=>h.grow W.g)) (xH _ _ _) (λ_=>rfl) V B (g_ _) (by rw[hk];exact EC) (.inr ⟨rfl,rfl⟩)
     rw[hk] at hp;exact .p hp
    ·exact(hx.alloc h.qw (.cells us.toArray e)).freeze (F':=kx F w.heap.size us.length us) λb j y=>ug (by have:=h.qw;omega)
   ·cases y
  ·cases y
 ·cases y
end
end Go.ld
