/- Part of the proof of TheoryNeeds: layer. -/
import Derived.Laws.MakeOwn
import Derived.Test.YtjgjcpnoaeljkaaGreatDoorNL4
set_option linter.all false
namespace Go.kC
open Go
def ou(P:Program)(T:dt)(c:Call)(dst:Option Nat)(K:Fr->cZ->Prop)(fr:Fr)(H:cZ):Prop:=
 match dst,c.args.toList,c.argTypes.toList with
 |some d,[s,x],[t,b]=>
  match mK P t,ev T fr x with
  |some (e,sz),.slice _ m=>
   b=t/\kA sz m=true/\(hO P e).isSome=true/\0<m.length/\match ev T fr s with
   |.slice .full l=>kA sz l=true/\l.length+m.length<=jn/\∀cap,l.length+m.length<=cap->K (fr.put (some d) (.qU H.length 0 (l.length+m.length) cap)) (H++[l.flatMap AV.cells++m.flatMap AV.cells++wu ((cap-(l.length+m.length))*sz)])|.N'=>m.length<=jn/\∀cap,m.length<=cap->K (fr.put (some d) (.qU H.length 0 m.length cap)) (H++[m.flatMap AV.cells++wu ((cap-m.length)*sz)])|.qU o off len cap=>off=0/\len+m.length<=jn/\match H[o]?with
    |some cs=>qK cs=true/\cs.length=cap*sz/\(len+m.length<=cap->K (fr.put (some d) (.qU o 0 (len+m.length) cap)) (H.set o (setCells cs (len*sz) (m.flatMap AV.cells))))/\(∀a,cap<len+m.length->len+m.length<=a->K (fr.put (some d) (.qU H.length 0 (len+m.length) a)) (H++[cs.take (len*sz)++m.flatMap AV.cells++wu ((a-(len+m.length))*sz)]))|none=>False
   |_=>False
  |_,_=>False
 |_,_,_=>False
section
variable{P:Program} {T:dt} {n:Nat} {G0:Nat->Nat} {F0:jo} {n0:Nat} {w0:World} {fr:Fr} {H:cZ} {a:Act} {w:World}
def CV(w:World)(t ty e q:TypeId)(i:TypeInfo)(r:P.underlying t=some (.slice e))(hi:P.info? e=some i)
  (g b d:Nat) (cur:Array Value) {l:Nat×Nat} (hg:w.heap[g]?=some (.cells cur q l)) (n:Pn l cur.size)
  (a:Addr) (m c:Nat) (news:List Value) (s:news.length=m*i.size) (f:∀j u,news[j]?=some u->w.cell? (a.add j)=some u) (v:∀u∈news,u.oneCell'=true)
  (h:b+m<=d) (k:b*i.size+news.length<=cur.size):(Builtin.append_ #[t,t] ty #[.slice (some ⟨g,0,none⟩) b d,.slice (some a) m c]).run P w=.ok (.slice (some ⟨g,0,none⟩) (b+m) d) (w.setRow g (cur.toList.take (b*i.size)++news++cur.toList.drop (b*i.size+news.length)).toArray):=by
 have x:=run_firstCells_some (P:=P) w i.size m a m c news s f;have o:=q9 P g (b*i.size) q l news 0 cur w hg n (by simpa using k) v;simp[Builtin.append_,run_underlying r,sizeOf,typeInfo,hi,Builtin.lenOf,h,x,Addr.add_lit,o]
def xy{F:jo}{G:Nat->Nat}{k:Nat}:∀{rest:List Value} {m:Nat},rest.length=m->(∀u∈rest,u.oneCell'=true)->fU (fE F G k) (wu m) rest
 |[],m,h,_=>by cases h;exact .nil
 |u::rest,m,h,a=>by
  cases h;exact .cons (.undef (a u aaL)) (xy rfl λv b=>a v (by simp[b]))
def Iv{ρ:Maps}{F:jo}{R:Nat->nb}(h:WR T n w0.heap.size ρ F R fr H a w)(hx:Ext w0.heap.size G0 F0 n0 w0 ρ.G F H.length w){c:Call}{dst:Option Nat}{ty:TypeId}{K:Fr->cZ->Prop}
  (y:ou P T c dst K fr H) (hd:∀d,dst=some d->d<n) (ax:∀x∈c.args.toList,iv x=true):∃v w' fr' H',(Builtin.append_ c.argTypes ty (c.args.map a.eval)).run P w=.ok v w'/\K fr' H'/\SR T n G0 F0 n0 w0 fr' H' (a.put dst v) w':=by
 unfold ou at y
 split at y
 .rename_i d s x t t' I ay;have e1:c.argTypes=#[t,t']:=Dh.1 (by rw[ay]);have e2:c.args.map a.eval=#[a.eval s,a.eval x]:=Dh.1 (by rw[NP,I];rfl);rw[e1,e2];have N:=fA h.env h.gv s (ax s (by rw[I];simp));have az:=fA h.env h.gv x (ax x (by rw[I];simp))
  split at y
  .rename_i e sz aW m X aG;obtain⟨rfl,aH,af,ah,y⟩:=y;rw[aG] at az;obtain⟨aI,L,b2,o2,a1,r,aJ,k,_,_⟩:=mz az;have hm:m≠[]:=R0.1 ah;have aA:=qf aH k.sz;have Y:=k.base hm
   have A:∀j v,r[j]?=some v->w.cell? ((⟨b2,o2,none⟩:Addr).add j)=some v:=by
    intro j v S;rw[Addr.add_lit];exact h.g.Cp b2 _ v (k.has j v S)
   have D:r.length=m.length*sz:=by rw[<-k.cells.length,ni aA]
   have O:fU (fE F ρ.G ρ.n) (m.flatMap AV.cells) r:=k.cells.sW;have ai:∀u∈r,u.oneCell'=true:=iO (O.mono λ_ _ _ h=>iF.p h) k.r7;obtain⟨i,z,hu,hi,hz,a6,ak,a7,aX⟩:=mi X
   have fin:∀{len f:Nat} {cells:List AV} {vs:Array Value},fU (fE F ρ.G ρ.n) cells vs.toList->(∀c∈cells,c.fJ=true)->len<=f->f<=maxLen->SR T n G0 F0 n0 w0 (fr.put (some d) (.qU H.length 0 len f)) (H++[cells]) (a.put (some d) (.slice (some ⟨w.heap.size,0,none⟩) len f)) (w.drew.alloc (.cells vs e)):=by
    intro len f cells vs hc aB h1 h2;refine py h.drew hx.drew (.cells (.inl rfl) hc aB) hd ?_;intro ρ' hG aK aL;have:=fE.qU (F:=F) (G:=ρ'.G) (n:=ρ'.n) (o:=H.length) (off:=0) (len:=len) (cap:=f) (by rw[aL];omega) h1 h2;rw[aK] at this;exact this
   rw[aJ,Y]
   split at y
   .--a new row
    rename_i l hs;obtain⟨aM,M,y⟩:=y;rw[hs] at N;obtain⟨base,cap,b,o,a8,vs,U,J,ao,_⟩:=mz N;rw[U];have zO:cap=l.length:=ao rfl;have aC:=qf aM J.sz
    have Z:vs.length=l.length*sz:=by rw[<-J.cells.length,ni aC]
    have aN:base=none->l.length=0/\cap=0:=by
     rintro rfl
     have aO:l=[]:=by
      rcases abl l with h'|⟨_,_,h'⟩
      .exact h'
      .have:=J.base (by rw[h'];simp);cases this
     subst aO;exact⟨rfl,zO⟩
    have ho:∀ad,base=some ad->∀j v,vs[j]?=some v->w.cell? (ad.add j)=some v:=by
     intro ad aq j v S
     have aD:l≠[]:=by
      rintro rfl;have:vs=[]:=z8 (by simpa using Z);rw[this] at S;simp at S
     have:=J.base aD;rw[aq] at this;obtain rfl:=fQ this;rw[Addr.add_lit];exact h.g.Cp b _ v (J.has j v S)
    obtain⟨f,rest,B,V,Q,W,q⟩:=mT w X af ty base l.length cap vs Z aN ho ⟨b2,o2,none⟩ m.length L r D A VW M;refine⟨_,_,_,_,q,y f B,fin ?_ ?_ B V⟩
    .simp only;exact(J.cells.sW.append O).append (xy Q W)
    .intro c hc;simp only[rA] at hc;rcases hc with(hc|hc)|hc
     .exact J.r7 c hc
     .exact k.r7 c hc
     .exact wz _ c hc
   .--an empty slice aE room
    rename_i hs;obtain⟨M,y⟩:=y;rw[hs] at N;obtain⟨base,U⟩:=NN N;rw[U];obtain⟨f,rest,B,V,Q,W,q⟩:=mT w X af ty base 0 0 [] aaL (λ_=>⟨rfl,rfl⟩) (by intro ad _ j v S;simp at S) ⟨b2,o2,none⟩ m.length L r D A VW VW;simp only[tH,od] at B Q q;refine⟨_,_,_,_,q,y f B,fin ?_ ?_ B V⟩
    .simp only;exact O.append (xy Q W)
    .intro c hc;simp only[rA] at hc;rcases hc with hc|hc
     .exact k.r7 c hc
     .exact wz _ c hc
   .--a shared object
    rename_i o off len cap hs;obtain⟨rfl,M,y⟩:=y;rw[hs] at N;obtain⟨U,aF,aP,aQ⟩:=BY N;rw[U]
    split at y
    .rename_i cs hb;obtain⟨ae,aR,aS,aT⟩:=y;obtain⟨ob,h4,h5⟩:=h.g.jU o cs hb;obtain⟨cur,cty,fz,rfl,aU,h5,h6⟩:=h5.BZ ae
     have aY:cur.size=cap*sz:=by rw[<-aR];simpa using h5.length.symm
     have hle:len*sz<=cap*sz:=GM _ aP;rw[<-h.hn] at h5
     by_cases C:len+m.length<=cap
     .have aZ:len*sz+m.length*sz<=cap*sz:=by rw[<-AO];exact GM _ C
      have q:=CV (P:=P) w t' ty e cty i hu hi (ρ.G o) len cap cur h4 aU ⟨b2,o2,none⟩ m.length L r (by rw[ak];exact D) A ai C (by rw[ak];omega);rw[ak] at q;have eO:=h5.setCells O (len*sz);have ar:(m.flatMap AV.cells).length=r.length:=O.length
      have aw:∀c∈setCells cs (len*sz) (m.flatMap AV.cells),c.fJ=true:=by
       intro c hc;simp only[setCells,rA] at hc;rcases hc with(hm|hm)|hm
       .exact h6 c (AF hm)
       .exact k.r7 c hm
       .exact h6 c (Hc hm)
      have aV:=h.Qs (vs':=(cur.toList.take (len*sz)++r++cur.toList.drop (len*sz+r.length)).toArray) hb ae (by rw[<-ar];simpa[ar] using eO)
       (by simp only[setCells,rF,xS,Wq,ar,D];omega) aw
      have js:=aV.put (d:=some d) (by intro d' he;injection he with he;subst he;exact hd _ rfl) (x:=.qU o 0 (len+m.length) cap) (v:=.slice (some ⟨ρ.G o,0,none⟩) (len+m.length) cap) (.cell (.p (.qU aF C aQ)));refine⟨_,_,_,_,q,aS C,ρ,F,R,js,?_⟩;rw[Po];exact hx.setRow (.inr ⟨o,by rw[<-h.hn];exact aF,rfl⟩) _
     .have ho:∀ad,some (⟨ρ.G o,0,none⟩:Addr)=some ad->∀j v,(cur.toList.take (len*sz))[j]?=some v->w.cell? (ad.add j)=some v:=by
       intro ad aq j v S;obtain rfl:=fQ aq;rw[Addr.add_lit,tH,cell_of_row w _ _ cur cty fz h4];rw[Nu] at S
       split at S
       .simpa using S
       .cases S
      obtain⟨f,rest,B,V,Q,W,q⟩:=mT w X af ty (some ⟨ρ.G o,0,none⟩) len cap (cur.toList.take (len*sz)) acz (by intro h;cases h) ho ⟨b2,o2,none⟩ m.length L r D A VW M;refine⟨_,_,_,_,q,aT f VW B,fin ?_ ?_ B V⟩
      .simp only;exact((h5.take _).append O).append (xy Q W)
      .intro c hc;simp only[rA] at hc;rcases hc with(hc|hc)|hc
       .exact h6 c (AF hc)
       .exact k.r7 c hc
       .exact wz _ c hc
    .exact y.elim
   .exact y.elim
  .exact y.elim
 .exact y.elim
end
def nD(P:Program)(t:TypeId)(l c:AV):Option AV:=
 match mK P t,l,c with
 |some (e,sz),.sc (.int .i64 n),.sc (.int .i64 m)=>match zeroOf P e with
  |some z=>if m=n/\0<=n/\n<=549755813888/\vK z=true/\sz=1 then some (.slice .full (List.replicate n.toNat (.sc z)))else none|none=>none
 |_,_,_=>none
section
variable{P:Program} {T:dt} {n:Nat} {G0:Nat->Nat} {F0:jo} {n0:Nat} {w0:World} {fr:Fr} {H:cZ} {a:Act} {w:World}
def fU.replicate{α β:Type}{R:α->β->Prop}{x:α}{y:β}(h:R x y):∀k,fU R (List.replicate k x) (List.replicate k y)
 |0=>.nil|k+1=>.cons h (fU.replicate h k)
def EZ(z:Value):∀k,(List.replicate k (AV.sc z)).flatMap AV.cells=List.replicate k (AV.sc z)
 |0=>rfl|k+1=>by
  rw[List.replicate_succ,Fp,EZ z k];rfl
def V_{z:Value}(h:vK z=true):z.cells=#[z]:=by
 cases z<;>first|rfl|(simp[vK] at h)
def Pj(z:Value)(k:Nat):madeCells #[z] k=(List.replicate k z).toArray:=by
 apply Array.ext
 .simp[madeCells]
 .simp[madeCells,Nat.mod_one]
def Ah{ρ:Maps}{F:jo}(w:World){t:Nat}{l c r:AV}{u v:Value}(b:nD P t l c=some r)(D:fv F ρ l u)(H:fv F ρ c v):∃(l:List AV) (us:List Value) (e k:Nat),r=.slice .full l/\l.length=k/\k<=maxLen/\(∀x∈l,x.cells.length=1)/\fU (fE F ρ.G ρ.n) (l.flatMap AV.cells) us/\(∀c∈l.flatMap AV.cells,c.fJ=true)/\(Instr.makeSlice t u v).run P w=.ok (.slice (some ⟨w.heap.size,0,none⟩) k k) (w.alloc (.cells us.toArray e)):=by
 unfold nD at b
 split at b
 .rename_i e sz n1 m1 q
  split at b
  .rename_i z f
   split at b
   .rename_i s;obtain⟨rfl,L,I,h,rfl⟩:=s;have y:=V_ h;cases b;cases e9 D;cases e9 H;obtain⟨i,o,hu,hi,j,J,A,K,C⟩:=mi q
    have B:o=z:=by
     unfold zeroOf at f;rw[hi] at f;have f:i.zero=some z:=f;rw[j] at f;exact fQ f
    subst B;obtain⟨k,rfl⟩:∃k:Nat,m1=k:=⟨m1.toNat,VW⟩
    have d:=run_make (P:=P) w t e i o hu hi j .i64 .i64 (k:Int) k VW (Int.le_refl _) (by
     have:(i.bytes:Int)*(k:Int)<=256*549755813888:=Int.mul_le_mul VW I VW VW
     omega) VW
    rw[y,A,zP,acf,Pj] at d;refine⟨List.replicate k (AV.sc o),List.replicate k o,e,k,by rw[zP],aeL,by simp only[maxLen];omega,λx a=>?_,?_,λx a=>?_,d⟩
    .rw[(aen.1 a).2];rfl
    .rw[EZ];exact fU.replicate (.sc h) k
    .rw[EZ] at a;rw[(aen.1 a).2];rfl
   .cases b
  .cases b
 .cases b
def EV{ρ:Maps}{F:jo}{R:Nat->nb}(h:WR T n w0.heap.size ρ F R fr H a w)(q:Ext w0.heap.size G0 F0 n0 w0 ρ.G F H.length w){t:Nat}{l c r:AV}{u v:Value}
  {dst:Option Nat} (s:nD P t l c=some r) (x:fv F ρ l u) (y:fv F ρ c v) (A:∀d,dst=some d->d<n):∃o w',(Instr.makeSlice t u v).run P w=.ok o w'/\SR T n G0 F0 n0 w0 (fr.put dst r) H (a.put dst o) w':=by
 obtain⟨l,us,e,k,rfl,B,xI,j,b,f,i⟩:=Ah w s x y;exact⟨_,_,i,yP h q B xI j b f A⟩
def CG{ρ:Maps}{F:jo}{R:Nat->nb}(h:WR T n w0.heap.size ρ F R fr H a w)(q:Ext w0.heap.size G0 F0 n0 w0 ρ.G F H.length w){t:Nat}{l c:AV}{u v:Value}{tag:Tag}{r:List AV}
  {dst:Option Nat} (s:nD P t l c=some (.slice tag r)) (x:fv F ρ l u) (y:fv F ρ c v) (A:∀d,dst=some d->d<n):∃j w',(Instr.makeSlice t u v).run P w=.ok j w'/\SR T n G0 F0 n0 w0 (fr.put dst (.qU H.length 0 r.length r.length)) (H++[r.flatMap AV.cells]) (a.put dst j) w':=by
 obtain⟨I,us,e,k,he,J,xI,B,b,f,i⟩:=Ah w s x y;injection he with _ he;subst he;refine⟨_,_,i,py h q (.cells (.inl rfl) (by simpa using b) f) A ?_⟩;intro ρ' hG C D;have:=fE.qU (F:=F) (G:=ρ'.G) (n:=ρ'.n) (o:=H.length) (off:=0) (len:=r.length) (cap:=r.length) (by grind)
 grind
end
end Go.kC
