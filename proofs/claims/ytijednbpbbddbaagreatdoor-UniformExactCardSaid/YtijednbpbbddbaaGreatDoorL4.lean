/- Part of the proof of UniformExact, UniformAccepted: layer. -/
import Derived.Laws.MakeOwn
import Derived.Test.YtijednbpbbddbaaGreatDoorL3
set_option linter.all false
namespace Go.ns
open Go
def sW(P:Program)(T:ec)(c:Call)(dst:Option Nat)(K:Fr->dd->Prop)(fr:Fr)(H:dd):Prop:=
 match dst,c.args.toList,c.argTypes.toList with
 |some d,[s,x],[t,b]=>
  match rp P t,ev T fr x with
  |some (e,sz),.slice _ m=>
   b=t/\mN sz m=true/\(hE P e).isSome=true/\0<m.length/\match ev T fr s with
   |.slice .full l=>mN sz l=true/\l.length+m.length<=mw/\∀cap,l.length+m.length<=cap->K (fr.put (some d) (.xx H.length 0 (l.length+m.length) cap)) (H++[l.flatMap AV.cells++m.flatMap AV.cells++BZ ((cap-(l.length+m.length))*sz)])|.KD=>m.length<=mw/\∀cap,m.length<=cap->K (fr.put (some d) (.xx H.length 0 m.length cap)) (H++[m.flatMap AV.cells++BZ ((cap-m.length)*sz)])|.xx o off len cap=>off=0/\len+m.length<=mw/\match H[o]?with
    |some cs=>w6 cs=true/\cs.length=cap*sz/\(len+m.length<=cap->K (fr.put (some d) (.xx o 0 (len+m.length) cap)) (H.set o (setCells cs (len*sz) (m.flatMap AV.cells))))/\(∀a,cap<len+m.length->len+m.length<=a->K (fr.put (some d) (.xx H.length 0 (len+m.length) a)) (H++[cs.take (len*sz)++m.flatMap AV.cells++BZ ((a-(len+m.length))*sz)]))|none=>False
   |_=>False
  |_,_=>False
 |_,_,_=>False
section
variable{P:Program} {T:ec} {n:Nat} {G0:Nat->Nat} {F0:nc} {n0:Nat} {w0:World} {fr:Fr} {H:dd} {a:Act} {w:World}
def Jj(w:World)(t ty e p:TypeId)(i:TypeInfo)(q:P.underlying t=some (.slice e))(hi:P.info? e=some i)
  (g b d:Nat) (cur:Array Value) {n:Nat×Nat} (hg:w.heap[g]?=some (.cells cur p n)) (o:S9 n cur.size)
  (a:Addr) (m c:Nat) (news:List Value) (r:news.length=m*i.size) (f:∀j u,news[j]?=some u->w.cell? (a.add j)=some u) (s:∀u∈news,u.oneCell'=true)
  (h:b+m<=d) (k:b*i.size+news.length<=cur.size):(Builtin.append_ #[t,t] ty #[.slice (some ⟨g,0,none⟩) b d,.slice (some a) m c]).run P w=.ok (.slice (some ⟨g,0,none⟩) (b+m) d) (w.setRow g (cur.toList.take (b*i.size)++news++cur.toList.drop (b*i.size+news.length)).toArray):=by
 have v:=run_firstCells_some (P:=P) w i.size m a m c news r f;have l:=wB P g (b*i.size) p n news 0 cur w hg o (by simpa using k) s;simp only[FW] at l;simp[Builtin.append_,run_underlying q,sizeOf,typeInfo,hi,Builtin.lenOf,h,v,Addr.add_lit,l]
def De{F:nc}{G:Nat->Nat}{k:Nat}:∀{rest:List Value} {m:Nat},rest.length=m->(∀u∈rest,u.oneCell'=true)->iU (ic F G k) (BZ m) rest
 |[],m,h,_=>by cases h;exact .nil
 |u::rest,m,h,a=>by
  cases h;show iU _ (List.replicate (rest.length+1) AV.undef) _;rw[Xx];exact .cons (.undef (a u aaB)) (De rfl λv b=>a v (by simp[b]))
def NU{ρ:Maps}{F:nc}{R:Nat->si}(h:WR T n w0.heap.size ρ F R fr H a w)(hx:Ext w0.heap.size G0 F0 n0 w0 ρ.G F H.length w){c:Call}{dst:Option Nat}{ty:TypeId}{K:Fr->dd->Prop}
  (y:sW P T c dst K fr H) (hd:∀d,dst=some d->d<n) (ar:∀x∈c.args.toList,lG x=true):∃v w' fr' H',(Builtin.append_ c.argTypes ty (c.args.map a.eval)).run P w=.ok v w'/\K fr' H'/\SR T n G0 F0 n0 w0 fr' H' (a.put dst v) w':=by
 unfold sW at y
 split at y
 ·rename_i d s x t t' E aw;have e1:c.argTypes=#[t,t']:=H3.1 (by rw[aw]);have e2:c.args.map a.eval=#[a.eval s,a.eval x]:=H3.1 (by rw[Rp,E];rfl);rw[e1,e2];have M:=hV h.env h.jQ s (ar s (by rw[E];simp));have ax:=hV h.env h.jQ x (ar x (by rw[E];simp))
  split at y
  ·rename_i e sz aU m W aE;obtain⟨rfl,aF,ab,ae,y⟩:=y;rw[aE] at ax;obtain⟨aG,J,b2,o2,aY,r,aH,k,_,_⟩:=qM ax;have hm:m≠[]:=T7.1 ae;have ay:=vq aF k.sz;have X:=k.base hm
   have A:∀j v,r[j]?=some v->w.cell? ((⟨b2,o2,none⟩:Addr).add j)=some v:=by
    intro j v Q;rw[Addr.add_lit];exact h.g.JO b2 _ v (k.has j v Q)
   have D:r.length=m.length*sz:=by rw[<-k.cells.length,rX ay]
   have N:iU (ic F ρ.G ρ.n) (m.flatMap AV.cells) r:=k.cells.yS;have af:∀u∈r,u.oneCell'=true:=lr (N.mono λ_ _ _ h=>lH.p h) k.wm;obtain⟨i,z,hu,hi,hz,aZ,ah,a1,aV⟩:=ql W
   have fin:∀{len f:Nat} {cells:List AV} {vs:Array Value},iU (ic F ρ.G ρ.n) cells vs.toList->(∀c∈cells,c.gw=true)->len<=f->f<=maxLen->SR T n G0 F0 n0 w0 (fr.put (some d) (.xx H.length 0 len f)) (H++[cells]) (a.put (some d) (.slice (some ⟨w.heap.size,0,none⟩) len f)) (w.drew.alloc (.cells vs e)):=by
    intro len f cells vs hc az h1 h2;refine wU h.drew hx.drew (.cells (.inl rfl) hc az) hd ?_;intro ρ' hG aI aJ;have:=ic.xx (F:=F) (G:=ρ'.G) (n:=ρ'.n) (o:=H.length) (off:=0) (len:=len) (cap:=f) (by rw[aJ];omega) h1 h2;rw[aI] at this;exact this
   rw[aH,X]
   split at y
   ·--a new row
    rename_i l hs;obtain⟨aK,L,y⟩:=y;rw[hs] at M;obtain⟨base,cap,b,o,a6,vs,S,I,ai,_⟩:=qM M;rw[S];have Gc:cap=l.length:=ai rfl;have aA:=vq aK I.sz
    have Y:vs.length=l.length*sz:=by rw[<-I.cells.length,rX aA]
    have aL:base=none->l.length=0/\cap=0:=by
     rintro rfl
     have aM:l=[]:=by
      rcases aa3 l with h'|⟨_,_,h'⟩
      ·exact h'
      ·have:=I.base (by rw[h'];simp);cases this
     subst aM;exact⟨rfl,Gc⟩
    have ho:∀Z,base=some Z->∀j v,vs[j]?=some v->w.cell? (Z.add j)=some v:=by
     intro Z ak j v Q
     have aB:l≠[]:=by
      rintro rfl;have:vs=[]:=Dq (by simpa using Y);rw[this] at Q;simp at Q
     have:=I.base aB;rw[ak] at this;obtain rfl:=gB this;rw[Addr.add_lit];exact h.g.JO b _ v (I.has j v Q)
    obtain⟨f,rest,B,U,O,V,q⟩:=rF w W ab ty base l.length cap vs Y aL ho ⟨b2,o2,none⟩ m.length J r D A VW L;refine⟨_,_,_,_,q,y f B,fin ?_ ?_ B U⟩
    ·simp only;exact(I.cells.yS.append N).append (De O V)
    ·intro c hc;simp only[rS] at hc;rcases hc with(hc|hc)|hc
     ·exact I.wm c hc
     ·exact k.wm c hc
     ·exact Cj _ c hc
   ·--an empty slice aC room
    rename_i hs;obtain⟨L,y⟩:=y;rw[hs] at M;obtain⟨base,S⟩:=Rq M;rw[S];obtain⟨f,rest,B,U,O,V,q⟩:=rF w W ab ty base 0 0 [] aaB (λ_=>⟨rfl,rfl⟩) (by intro Z _ j v Q;simp at Q) ⟨b2,o2,none⟩ m.length J r D A VW VW;simp only[tG,kW] at B O q;refine⟨_,_,_,_,q,y f B,fin ?_ ?_ B U⟩
    ·simp only;exact N.append (De O V)
    ·intro c hc;simp only[rS] at hc;rcases hc with hc|hc
     ·exact k.wm c hc
     ·exact Cj _ c hc
   ·--a shared object
    rename_i o off len cap hs;obtain⟨rfl,L,y⟩:=y;rw[hs] at M;obtain⟨S,aD,aN,aO⟩:=HZ M;rw[S]
    split at y
    ·rename_i cs hb;obtain⟨aa,aP,aQ,aR⟩:=y;obtain⟨ob,h4,h5⟩:=h.g.oB o cs hb;obtain⟨cur,cty,fz,rfl,aS,h5,h6⟩:=h5.H6 aa
     have aW:cur.size=cap*sz:=by rw[<-aP];simpa using h5.length.symm
     have hle:len*sz<=cap*sz:=Lt _ aN;rw[<-h.hn] at h5
     by_cases C:len+m.length<=cap
     ·have aX:len*sz+m.length*sz<=cap*sz:=by rw[<-A7];exact Lt _ C
      have q:=Jj (P:=P) w t' ty e cty i hu hi (ρ.G o) len cap cur h4 aS ⟨b2,o2,none⟩ m.length J r (by rw[ah];exact D) A af C (by rw[ah];omega);rw[ah] at q;have fH:=h5.setCells N (len*sz);have ao:(m.flatMap AV.cells).length=r.length:=N.length
      have aq:∀c∈setCells cs (len*sz) (m.flatMap AV.cells),c.gw=true:=by
       intro c hc;simp only[setCells,rS] at hc;rcases hc with(hm|hm)|hm
       ·exact h6 c (Hi hm)
       ·exact k.wm c hm
       ·exact h6 c (Nl hm)
      have aT:=h.Um (vs':=(cur.toList.take (len*sz)++r++cur.toList.drop (len*sz+r.length)).toArray) hb aa (by rw[<-ao];simpa[ao] using fH)
       (by simp only[setCells,qI,Dr,Tf,ao,D];omega) aq
      have ki:=aT.put (d:=some d) (by intro d' he;injection he with he;subst he;exact hd _ rfl) (x:=.xx o 0 (len+m.length) cap) (v:=.slice (some ⟨ρ.G o,0,none⟩) (len+m.length) cap) (.cell (.p (.xx aD C aO)));refine⟨_,_,_,_,q,aQ C,ρ,F,R,ki,?_⟩;rw[T9];exact hx.setRow (.inr ⟨o,by rw[<-h.hn];exact aD,rfl⟩) _
     ·have ho:∀Z,some (⟨ρ.G o,0,none⟩:Addr)=some Z->∀j v,(cur.toList.take (len*sz))[j]?=some v->w.cell? (Z.add j)=some v:=by
       intro Z ak j v Q;obtain rfl:=gB ak;rw[Addr.add_lit,tG,cell_of_row w _ _ cur cty fz h4];rw[Me] at Q
       split at Q
       ·simpa using Q
       ·cases Q
      obtain⟨f,rest,B,U,O,V,q⟩:=rF w W ab ty (some ⟨ρ.G o,0,none⟩) len cap (cur.toList.take (len*sz)) aaP (by intro h;cases h) ho ⟨b2,o2,none⟩ m.length J r D A VW L;refine⟨_,_,_,_,q,aR f VW B,fin ?_ ?_ B U⟩
      ·simp only;exact((h5.take _).append N).append (De O V)
      ·intro c hc;simp only[rS] at hc;rcases hc with(hc|hc)|hc
       ·exact h6 c (Hi hc)
       ·exact k.wm c hc
       ·exact Cj _ c hc
    ·exact y.elim
   ·exact y.elim
  ·exact y.elim
 ·exact y.elim
end
def uc(P:Program)(t:TypeId)(l c:AV):Option AV:=
 match rp P t,l,c with
 |some (e,sz),.sc (.int .i64 n),.sc (.int .i64 m)=>match zeroOf P e with
  |some z=>if m=n/\0<=n/\n<=1099511627776/\BD z=true/\sz=1 then some (.slice .full (List.replicate n.toNat (.sc z)))else none|none=>none
 |_,_,_=>none
section
variable{P:Program} {T:ec} {n:Nat} {G0:Nat->Nat} {F0:nc} {n0:Nat} {w0:World} {fr:Fr} {H:dd} {a:Act} {w:World}
def iU.replicate{α β:Type}{R:α->β->Prop}{x:α}{y:β}(h:R x y):∀k,iU R (List.replicate k x) (List.replicate k y)
 |0=>.nil|k+1=>.cons h (iU.replicate h k)
def Ut(z:Value):∀k,(List.replicate k (AV.sc z)).flatMap AV.cells=List.replicate k (AV.sc z)
 |0=>rfl|k+1=>by
  rw[Xx,Es,Ut z k];rfl
def VR{z:Value}(h:BD z=true):z.cells=#[z]:=by
 cases z<;>first|rfl|(simp[BD] at h)
def SN(z:Value)(k:Nat):madeCells #[z] k=(List.replicate k z).toArray:=by
 apply Array.ext
 ·simp[madeCells]
 ·intro i a b;simp[madeCells,Nat.mod_one]
def Lp{ρ:Maps}{F:nc}{R:Nat->si}(h:WR T n w0.heap.size ρ F R fr H a w)(hx:Ext w0.heap.size G0 F0 n0 w0 ρ.G F H.length w){t:Nat}{l c r:AV}{u v:Value}
  {dst:Option Nat} (s:uc P t l c=some r) (y:h_ F ρ l u) (hc:h_ F ρ c v) (hd:∀d,dst=some d->d<n):∃V w',(Instr.makeSlice t u v).run P w=.ok V w'/\SR T n G0 F0 n0 w0 (fr.put dst r) H (a.put dst V) w':=by
 unfold uc at s
 split at s
 ·rename_i e sz n1 W L
  split at s
  ·rename_i z B
   split at s
   ·rename_i M;obtain⟨rfl,h0,h1,C,rfl⟩:=M;have N:=VR C;cases s;cases gK y;cases gK hc;obtain⟨i,K,hu,hi,D,aa,O,ab,X⟩:=ql L
    have Q:K=z:=by
     unfold zeroOf at B;rw[hi] at B;have B:i.zero=some z:=B;rw[D] at B;exact gB B
    subst Q;obtain⟨k,rfl⟩:∃k:Nat,W=k:=⟨W.toNat,VW⟩
    have f:=run_make (P:=P) w t e i K hu hi D .i64 .i64 (k:Int) k VW (Xg _) (by
     have:(i.bytes:Int)*(k:Int)<=128*1099511627776:=Int.mul_le_mul VW h1 VW VW
     omega) VW
    rw[N,O,yz,X4,SN] at f;obtain⟨us,E⟩:∃us,us=List.replicate k K:=⟨_,rfl⟩;obtain⟨l,y⟩:∃l,l=List.replicate k (AV.sc K):=⟨_,rfl⟩
    have Y:l.length=k:=by rw[y,List.length_replicate]
    have I:l.flatMap AV.cells=l:=by rw[y,Ut]
    have m:iU (ic F ρ.G ρ.n) (l.flatMap AV.cells) us:=by rw[I,y,E];exact iU.replicate (.sc C) k
    have A:∀x∈l.flatMap AV.cells,x.gw=true:=by
     intro x q;rw[I,y] at q;rw[(U6.1 q).2];rfl
    have S:∀x∈l,x.cells.length=1:=λx q=>by
     rw[y] at q;rw[(U6.1 q).2];rfl
    rw[<-E] at f;rw[yz,<-y]
    have Gy:k<=maxLen:=by simp only[maxLen];omega
    have J:=heap_alloc_new w (.cells us.toArray e);obtain⟨U,hw⟩:=(h.alloc (.cells us.toArray e)).freeze (us:=us) (k:=us.length) (h.ny _ (ig _)) (λj=>h.g.fresh _ j (ig _)) J (λu hu=>lr (m.mono λ_ _ _ h=>lH.p h) A u (by simpa using hu)) (by intro j v _ hv;simpa using hv);refine⟨_,_,f,ρ,_,R,hw.put hd (x:=.slice .full l) (v:=.slice (some ⟨w.heap.size,0,none⟩) k k) ?_,?_⟩
    ·have Z:=ic.slice (F:=mE F w.heap.size us.length us) (G:=ρ.G) (n:=ρ.n) (tag:=.full) (l:=l) (b:=w.heap.size) (o:=0) (base:=some ⟨w.heap.size,0,none⟩) (cap:=l.length) (sz:=1)
      (.so (m.mono λ_ _ _ h=>h.grow U.g)) (Bb _ _ _) (λ_=>rfl) S A (ig _) (by rw[Y];exact Gy) (.inr ⟨rfl,rfl⟩)
     rw[Y] at Z;exact .p Z
    ·exact(hx.alloc h.tU (.cells us.toArray e)).freeze (F':=mE F w.heap.size us.length us) λb j s=>yh (by have:=h.tU;omega)
   ·cases s
  ·cases s
 ·cases s
end
end Go.ns
