/- Part of the proof of UniformExact, UniformAccepted: layer. -/
import Derived.Great.BuildSlice
import Derived.Lib.AppendStr
import Derived.MapKept
import Derived.Laws.IdiomRangeMap
import Derived.Test.YtijednbpbbddbaaGreatDoorL2
set_option linter.all false
namespace Go.ns
open Go
section
variable{B:Nat} {G G':Nat->Nat} {F F':nc} {n:Nat} {G0:Nat->Nat} {F0:nc} {n0:Nat} {w0 w w':World}
def Ext.Q7(h:Ext B G0 F0 n0 w0 G F n w)(a:w'.os=w.os)(c:w'.tape=w.tape)(d:w'.output=w.output)(hs:w.heap.size<=w'.heap.size)
  (e:∀b,b<B->(∀o,o<n->G o≠b)->w'.heap[b]?=w.heap[b]?):Ext B G0 F0 n0 w0 G F n w':=
 h.trans ⟨a,c,d,hs,ig _,λ_ _=>rfl,λ_ h f=>absurd f VW,λ_ _ _ _=>rfl,λ_ _ _ _ h=>h,e⟩
def Ext.drew(h:Ext B G0 F0 n0 w0 G F n w):Ext B G0 F0 n0 w0 G F n w.drew:=h.Q7 rfl rfl rfl (ig _) λ_ _ _=>rfl
def Ext.alloc(h:Ext B G0 F0 n0 w0 G F n w)(a:B<=w.heap.size)(o:Obj):Ext B G0 F0 n0 w0 G F n (w.alloc o):=
 h.Q7 rfl rfl rfl aaB λb c _=>heap_alloc_old w o VW
def Ext.setRow(h:Ext B G0 F0 n0 w0 G F n w){g:Nat}(hg:B<=g\/∃o,o<n/\G o=g)(cs:Array Value):Ext B G0 F0 n0 w0 G F n (w.setRow g cs):=
 h.Q7 rfl rfl rfl (by rw[size_setRow];exact ig _) λb c hn=>setRow_other w g b cs (by
  rintro rfl;rcases hg with hg|⟨o,a,hg⟩
  ·omega
  ·exact hn o a hg)
def Ext.freeze(h:Ext B G0 F0 n0 w0 G F n w)(hF:∀b j,b<B->F' b j=F b j):Ext B G0 F0 n0 w0 G F' n w:=
 h.trans ⟨rfl,rfl,rfl,ig _,ig _,λ_ _=>rfl,λ_ h c=>absurd c VW,λb j a _=>hF b j a,λb j v a d=>(hF b j a).trans d,λ_ _ _=>rfl⟩
def Ext.Yx(h:Ext B G0 F0 n0 w0 G F n w)(hF:∀b j,(∀o,o<n->G o≠b)->F' b j=F b j)(mF:∀b j v,F b j=some v->F' b j=some v):Ext B G0 F0 n0 w0 G F' n w:=
 h.trans ⟨rfl,rfl,rfl,ig _,ig _,λ_ _=>rfl,λ_ h a=>absurd a VW,λb j _ hg=>hF b j hg,λb j v _ c=>mF b j v c,λ_ _ _=>rfl⟩
def Ext.aat(h:Ext B G0 F0 n0 w0 G F n w)(hG:∀o,o<n->G' o=G o)(hn:B<=G' n):Ext B G0 F0 n0 w0 G' F (n+1) w:=
 h.trans ⟨rfl,rfl,rfl,ig _,VW,hG,λo a b=>(by rw[show o=n from VW];exact hn),λ_ _ _ _=>rfl,λ_ _ _ _ h=>h,λ_ _ _=>rfl⟩
end
def SR(T:ec)(n:Nat)(G0:Nat->Nat)(F0:nc)(n0:Nat)(w0:World)(fr:Fr)(H:dd)(a:Act)(w:World):Prop:=
 ∃ρ F R,WR T n w0.heap.size ρ F R fr H a w/\Ext w0.heap.size G0 F0 n0 w0 ρ.G F H.length w
def yp(P:Program)(fr:Fr)(H:dd)(t:TypeId)(x:AV):Option AV:=
 match x with
 |.nt v=>if vX P t v then some v else none|.jo b g off=>if g=fr.gen b then(match fr.box b with|some cs=>p0 P t cs off|none=>none)else none
 |.eS o off=>match H[o]?with|some cs=>if w6 cs then p0 P t cs off else none|none=>none
 |_=>none
section
variable{P:Program} {T:ec} {n B0:Nat} {ρ:Maps} {F:nc} {R:Nat->si} {fr:Fr} {H:dd} {a:Act} {w:World}
def Vc{t:TypeId}{v:AV}(h:vX P t v=true):(∃k cs,fw P t=some (true,k)/\v=.agg cs/\cs.length=k)\/(∃k,fw P t=some (false,k)/\v.gw=true):=by
 unfold vX at h;cases a:fw P t with
 |none=>rw[a] at h;simp at h
 |some p=>
  obtain⟨b,k⟩:=p;rw[a] at h;cases b
  ·cases v<;>first|(simp at h;done)|exact .inr ⟨k,rfl,rfl⟩
  ·cases v<;>first|exact .inl ⟨k,_,rfl,rfl,by simpa using h⟩|(simp at h;done)
def Fg(w:World){t:TypeId}{b off:Nat}{cs:List AV}{vs:Array Value}{ty:TypeId}{f:Nat×Nat}{z:AV}(i:w.heap[b]?=some (.cells vs ty f))
  (a:iU (lH F ρ) cs vs.toList) (e:∀c∈cs,c.gw=true) (l:p0 P t cs off=some z):∃v,(Instr.loadAt t (.pointer (some ⟨b,off,none⟩))).run P w=.ok v w/\h_ F ρ z v:=by
 unfold Instr.loadAt;simp only[Instr.sureAddr,jn,sN,lL];rcases Fj l with⟨k,g,hle,rfl⟩|⟨k,g,h⟩
 ·refine⟨.agg ((vs.toList.drop off).take k).toArray,?_,.agg ((a.drop off).take k) (λc h=>e c (Nl (Hi h)))⟩;refine D6 g w ⟨b,off,none⟩ _ (by have:=a.length;simp only[Dr,Tf];omega) ?_;intro j v d;rw[Addr.add_lit,cell_of_row w b _ vs ty f i];rw[Me] at d
  split at d
  ·rw[UT] at d;simpa using d
  ·cases d
 ·obtain⟨v,d,m⟩:=a.get h;refine⟨v,?_,.cell m⟩;refine D4 g w ⟨b,off,none⟩ v ?_;rw[cell_of_row w b _ vs ty f i];simpa using d
def OX(h:WR T n B0 ρ F R fr H a w){t:TypeId}{x z:AV}{u:Value}(c:yp P fr H t x=some z)(l:h_ F ρ x u):∃v,(Instr.loadAt t u).run P w=.ok v w/\h_ F ρ z v:=by
 unfold yp at c
 split at c
 ·rename_i v
  split at c
  ·rename_i A;injection c with c;subst c;obtain⟨b,o,vs,rfl,e,m,q⟩:=J7 l;unfold Instr.loadAt;simp only[Instr.sureAddr,jn,sN,lL];rcases Vc A with⟨k,cs,d,rfl,B⟩|⟨k,d,i⟩
   ·refine⟨.agg vs.toArray,?_,.p (.agg e q)⟩;refine D6 d w ⟨b,o,none⟩ vs (by rw[<-e.length];exact B) ?_;intro j v C;rw[Addr.add_lit];exact h.g.JO b _ v (m j v C)
   ·rw[AV.FL i] at e;cases e with
    |cons e hn=>
     cases hn;rename_i u;refine⟨u,?_,.p e⟩;refine D4 d w ⟨b,o,none⟩ u ?_;exact h.g.JO b o u (m 0 u rfl)
  ·cases c
 ·rename_i b g off
  split at c
  ·rename_i hg
   split at c
   ·rename_i cs r;obtain⟨rfl,_⟩:=zL l;obtain⟨e,m,q,vs,ty,s,f⟩:=h.box b cs r;rw[hg];exact Fg w s f q c
   ·cases c
  ·cases c
 ·rename_i o off
  split at c
  ·rename_i cs r
   split at c
   ·rename_i y;obtain⟨rfl,_⟩:=zM l;obtain⟨E,s,f⟩:=h.g.oB o cs r;obtain⟨vs,ty,G,rfl,_,f,D⟩:=f.H6 y;rw[<-h.hn] at f;exact Fg w s (f.mono λ_ _ _ h=>.p h) D c
   ·cases c
  ·cases c
 ·cases c
def Vy{w:World}{b j:Nat}{vs:Array Value}{ty:TypeId}{a:Nat×Nat}(c:w.heap[b]?=some (.cells vs ty a))(d:S9 a vs.size)(g:j<vs.size):w.frozen? ⟨b,j,none⟩=false:=by
 obtain⟨lo,hi⟩:=a;unfold World.frozen?;simp only[c];rcases d with h|h
 ·injection h with e f;subst e;subst f;simp
 ·have h:vs.size<=lo:=h;simp only[Bool.and_eq_false_iff,UU];exact .inl VW
def wB(P:Program)(b o:Nat)(ty:TypeId)(c:Nat×Nat):∀(us:List Value) (i:Nat) (vs:Array Value) (w:World),w.heap[b]?=some (.cells vs ty c)->S9 c vs.size->o+i+us.length<=vs.size->(∀u∈us,u.oneCell'=true)->(storeCells ⟨b,o,none⟩ us i).run P w=.ok () (w.setRow b (vs.toList.take (o+i)++us++vs.toList.drop (o+i+us.length)).toArray)
 |[],i,vs,w,d,_,_,_=>by
  have e:=setRow_self w b vs ty c d;simp only[storeCells,zk,tY,FW,adD,TH,e];rfl
 |u::us,i,vs,w,d,h,m,l=>by
  simp only[hW] at m
  have f:o+i<vs.size:=VW
  have n:w.cell? ⟨b,o+i,none⟩=some vs[o+i]:=by
   rw[cell_of_row w b _ vs ty c d];exact U7 f
  have hs:(store ((⟨b,o,none⟩:Addr).add i) u).run P w=.ok () (w.setRow b (vs.setIfInBounds (o+i) u)):=by
   rw[Addr.add_lit,run_store P w _ u _ (l u aaB),n];simp[Vy d h f,setCell_eq_setRow w b (o+i) vs ty c u d]
  have g:=setRow_heap w b vs (vs.setIfInBounds (o+i) u) ty c d;have p:=wB P b o ty c us (i+1) _ _ g (by simpa using h) aaP (λx q=>l x (by simp[q]));rw[storeCells];simp only[jn,hs,lL];rw[p,setRow_setRow]
  congr 2
  apply H3.1;simp only[adQ];apply Wi;intro j;simp only[ry,hW,X2]
  have a:∀k,k<=vs.toList.length->(vs.toList.take k).length=k:=λk y=>by rw[Dr];omega
  have r:vs.toList.length=vs.size:=aaB
  rcases abc j (o+i)with hj|hj|hj
  ·rw[s_ (by rw[Dr,T9];omega),s_ (by rw[a _ VW];omega),Me,Me,cK VW,cK hj,Lx VW]
  ·subst hj;rw[s_ (by rw[Dr,T9];omega),xj (by rw[a _ VW];omega),a _ VW,Me,cK VW,Yi VW,Tj];rfl
  ·have s:∀X:List Value,((vs.toList.set (o+i) u).take (o+(i+1))++X)[j]?=X[j-(o+(i+1))]?:=λX=>by
    have t:((vs.toList.set (o+i) u).take (o+(i+1))).length=o+(i+1):=by rw[Dr,T9];omega
    rw[xj VW,t]
   have v:∀X:List Value,(vs.toList.take (o+i)++u::X)[j]?=X[j-(o+(i+1))]?:=λX=>by
    rw[xj (by rw[a _ VW];omega),a _ VW,show j-(o+i)=(j-(o+(i+1)))+1 by omega,jF]
   rw[s,v];rcases tv (j-(o+(i+1))) us.length with hu|hu
   ·rw[s_ hu,s_ hu]
   ·rw[xj hu,xj hu,UT,UT,Lx VW]
    congr 1
    omega
def DV(w:World){t:TypeId}{b off k:Nat}{bl:Bool}{vs:Array Value}{ty:TypeId}{a:Nat×Nat}{v:Value}(e:w.heap[b]?=some (.cells vs ty a))(c:S9 a vs.size)
  (f:fw P t=some (bl,k)) (g:v.cells.size=k) (d:off+k<=vs.size) (h:∀u∈v.cells.toList,u.oneCell'=true):(Instr.storeAt t (.pointer (some ⟨b,off,none⟩)) v).run P w=.ok () (w.setRow b (vs.toList.take off++v.cells.toList++vs.toList.drop (off+v.cells.toList.length)).toArray):=by
 unfold Instr.storeAt;simp only[Instr.sureAddr,jn,sN,lL];unfold storeVar;simp only[jn,m_ f,lL];rw[cI (by simp[g])];have:=wB P b off ty a v.cells.toList 0 vs w e c (by simp only[FW,Ua];omega) h;simpa using this
end
def nq(E:List Nat)(dst:Option Nat)(cells:List AV)(K:Fr->dd->Prop)(fr:Fr)(H:dd):Prop:=
 match dst with
 |some d=>
  if E.contains d then K {fr with env:=ia fr.env d (.eS H.length 0)} (H++[cells.map AV.kM])
  else K {fr with env:=ia fr.env d (.jo d (fr.gen d+1) 0),box:=ia fr.box d (some cells),gen:=ia fr.gen d (fr.gen d+1)} H
 |none=>False
def o6(P:Program)(t:TypeId)(x v:AV)(K:Fr->dd->Prop)(fr:Fr)(H:dd):Prop:=
 match fw P t with
 |none=>False|some (_,n)=>
  match x with
  |.jo b g off=>
   match fr.box b with
   |some cs=>g=fr.gen b/\v.cells.length=n/\off+n<=cs.length/\e9 v=true/\K {fr with box:=ia fr.box b (some (setCells cs off v.cells))} H|none=>False
  |.eS o off=>
   match H[o]?with
   |some cs=>w6 cs=true/\v.cells.length=n/\off+n<=cs.length/\e9 v=true/\K fr (H.set o (setCells cs off v.norm.cells))|none=>False
  |_=>False
section
variable{P:Program} {T:ec} {n:Nat} {G0:Nat->Nat} {F0:nc} {n0:Nat} {w0:World} {fr:Fr} {H:dd} {a:Act} {w:World}
def AV.xZ{x:AV}(h:e9 x=true):x.norm.cells=x.cells.map AV.kM:=by
 cases x<;>first|rfl|(simp[e9] at h)
def B_{cs:List AV}(h:∀c∈cs,c.gw=true):∀c∈cs.map AV.kM,c.gw=true:=by
 intro c a;obtain⟨x,b,rfl⟩:=nU.1 a;rw[AV.Kx];exact h x b
def lr{F:nc}{ρ:Maps}{cs:List AV}{vs:List Value}(h:iU (lH F ρ) cs vs)(a:∀c∈cs,c.gw=true):∀u∈vs,u.oneCell'=true:=by
 intro u hu;obtain⟨x,b,d⟩:=h.mem hu;exact d.Pe (a x b)
def KM{ρ:Maps}{F:nc}{R:Nat->si}(h:WR T n w0.heap.size ρ F R fr H a w)(p:Ext w0.heap.size G0 F0 n0 w0 ρ.G F H.length w){E:List Nat}{dst:Option Nat}{cells:List AV}{K:Fr->dd->Prop}
  (i:nq E dst cells K fr H) (r:∀d,dst=some d->d<n) {vs:Array Value} (ty:TypeId) (k:iU (lH F ρ) cells vs.toList) (e:∀c∈cells,c.gw=true):∃fr' H',K fr' H'/\SR T n G0 F0 n0 w0 fr' H' (a.put dst (.pointer (some ⟨w.heap.size,0,none⟩))) (w.alloc (.cells vs ty)):=by
 unfold nq at i
 split at i
 ·rename_i d;have l:=r d rfl;have q:=h.alloc (.cells vs ty);have b:R w.heap.size=.free:=h.ny _ (ig _);have hF:∀j,F w.heap.size j=none:=λj=>h.g.fresh _ j (ig _);have f:(w.alloc (.cells vs ty)).heap[w.heap.size]?=some (.cells vs ty (0,0)):=heap_alloc_new w _
  split at i
  ·obtain⟨ρ',m,hG,o,hw⟩:=q.abh b hF f (k.Az AV.kM λ_ _ _ h=>h.kM) (B_ e) l;refine⟨_,_,i,ρ',F,m,hw,?_⟩;rw[qI];exact(p.alloc h.tU _).aat hG (by rw[o];exact h.tU)
  ·obtain⟨ρ',m,hG,hw⟩:=q.ZG h.tU b hF f k e l;refine⟨_,_,i,ρ',F,m,hw,?_⟩;rw[hG];exact p.alloc h.tU _
 ·exact i.elim
def Uc(w:World){t:TypeId}{z:Value}(a:zeroOf P t=some z):(Instr.alloc t true (.tuple #[])).run P w=.ok (.pointer (some ⟨w.heap.size,0,none⟩)) (w.alloc (.cells z.cells t)):=by
 have b:(zeroValue t).run P w=.ok z w:=by
  unfold zeroOf at a;cases hi:P.info? t with
  |none=>rw[hi] at a;cases a
  |some i=>
   rw[hi] at a;simp at a;simp[zeroValue,typeInfo,hi,a]
 unfold Instr.alloc;simp only[jn,b,lL];rfl
def Gs{v:Value}(h:Dz v=true)(a:∀vs,v≠ .tuple vs):(ofValue v).cells=v.cells.toList.map uO/\∀u∈v.cells.toList,u.oneCell'=true:=by
 cases v with
 |agg cs=>
  refine⟨rfl,λu hu=>?_⟩
  have b:cs.all (·.oneCell')=true:=h
  exact OF.1 b u (Bn.1 hu)
 |tuple vs=>exact absurd rfl (a vs)|_=>
  constructor
  ·rw[KV rfl];exact AV.FL (CY _)
  ·simp[Value.cells,Value.oneCell']
def RZ{ρ:Maps}{F:nc}{R:Nat->si}(h:WR T n w0.heap.size ρ F R fr H a w)(E:Ext w0.heap.size G0 F0 n0 w0 ρ.G F H.length w){t:TypeId}{x v:AV}{I p:Value}{K:Fr->dd->Prop}
  (f:o6 P t x v K fr H) (r:h_ F ρ x I) (j:h_ F ρ v p):∃fr' H' w',(Instr.storeAt t I p).run P w=.ok () w'/\K fr' H'/\SR T n G0 F0 n0 w0 fr' H' a w':=by
 unfold o6 at f
 split at f
 ·exact f.elim
 ·rename_i bl k J
  split at f
  ·rename_i b g off
   split at f
   ·rename_i cs s;obtain⟨hg,N,u,e,f⟩:=f;obtain⟨rfl,_⟩:=zL r;obtain⟨O,S,L,vs,ty,A,m⟩:=h.box b cs s;have d:=j.cells (kE e);have hlen:=d.length
    have q:p.cells.toList.length=p.cells.size:=aaB
    have B:cs.length=vs.size:=by simpa using m.length
    have fH:=m.setCells d off;rw[hlen] at fH;rw[hg]
    have i:∀c∈setCells cs off v.cells,c.gw=true:=by
     intro c y;simp only[setCells,rS] at y;rcases y with(hm|hm)|hm
     ·exact L c (Hi hm)
     ·exact j.wm (kE e) c hm
     ·exact L c (Nl hm)
    refine⟨_,_,_,DV w A (.inl rfl) J VW VW (lr d (j.wm (kE e))),f,ρ,F,R,h.V5 s (by simpa using fH) i,E.setRow (.inl O) _⟩
   ·exact f.elim
  ·rename_i o off
   split at f
   ·rename_i cs s;obtain⟨z,N,u,e,f⟩:=f;obtain⟨rfl,Q⟩:=zM r;obtain⟨U,A,m⟩:=h.g.oB o cs s;obtain⟨vs,ty,V,rfl,C,m,M⟩:=m.H6 z;have d:=j.cells (kE e);have hlen:=d.length
    have q:p.cells.toList.length=p.cells.size:=aaB
    have B:cs.length=vs.size:=by simpa using m.length
    have l:iU (ic F ρ.G ρ.n) v.norm.cells p.cells.toList:=by
     rw[AV.xZ e];exact d.Az AV.kM λ_ _ _ h=>h.kM
    rw[<-h.hn] at m;have fH:=m.setCells l off
    have D:v.norm.cells.length=v.cells.length:=by rw[AV.xZ e];simp
    rw[D,hlen] at fH
    have i:∀c∈setCells cs off v.norm.cells,c.gw=true:=by
     intro c y;simp only[setCells,rS] at y;rcases y with(hm|hm)|hm
     ·exact M c (Hi hm)
     ·rw[AV.xZ e] at hm;exact B_ (j.wm (kE e)) c hm
     ·exact M c (Nl hm)
    refine⟨_,_,_,DV w A C J VW VW (lr d (j.wm (kE e))),f,ρ,F,R,h.Um s z (by simpa using fH) (by simp only[setCells,qI,Dr,Tf];omega) i,?_⟩;rw[T9];exact E.setRow (.inr ⟨o,by rw[<-h.hn];exact Q,rfl⟩) _
   ·exact f.elim
  ·exact f.elim
end
end Go.ns
namespace Go.ns
open Go
def rp(P:Program)(t:TypeId):Option (TypeId×Nat):=
 match P.underlying t with
 |some (.slice e)=>
  match P.info? e with
  |some i=>
   match i.zero with
   |some z=>if z.cells.size=i.size/\i.bytes<=128/\0<i.size/\z.cells.toList.all Value.oneCell' then some (e,i.size)else none|none=>none
  |none=>none
 |_=>none
def mw:Nat:=1099511627776
section
variable{P:Program}
def ql{t e:TypeId}{sz:Nat}(h:rp P t=some (e,sz)):∃i z,P.underlying t=some (.slice e)/\P.info? e=some i/\i.zero=some z/\z.cells.size=sz/\i.size=sz/\i.bytes<=128/\0<sz:=by
 unfold rp at h
 split at h
 ·rename_i f hu
  split at h
  ·rename_i i hi
   split at h
   ·rename_i z b
    split at h
    ·rename_i a;injection h with h;injection h with c d;subst c;subst d;exact⟨i,z,hu,hi,b,a.1,rfl,a.2.1,a.2.2.1⟩
    ·cases h
   ·cases h
  ·cases h
 ·cases h
def fill_flat{sz:Nat}:∀(pv:List Value) (k:Nat) (pre rest:List Value),(∀v∈pv,v.cells.size=sz)->pre.length=k*sz->rest.length=pv.length*sz->Instr.fill (λi=>some (i*sz,sz)) (pre++rest).toArray ((pv.zipIdx k).map λx=>(x.2,x.1))=some (pre++pv.flatMap λv=>v.cells.toList).toArray:=by
 intro pv
 induction pv with
 |nil=>
  intro k pre rest _ _ f;have:rest=[]:=Dq (by simpa using f);subst this;simp[Instr.fill]
 |cons v pv j=>
  intro k pre rest d g f;have h:=d v aaB
  have e:v.cells.toList.length=sz:=by simp[h]
  rw[hW,A7,Xt] at f;have a:=foldl_set v.cells.toList 0 (k*sz) (pre++rest).toArray (by simp only[YK,qI,FW];omega);simp only[FW,e] at a
  have l:(pre++rest).toArray.toList.take (k*sz)=pre:=by simp[<-g]
  have m:(pre++rest).toArray.toList.drop (k*sz+sz)=rest.drop sz:=by
   simp only[];rw[aap];rw[H9 VW,kW,<-g]
   congr 1
   omega
  rw[l,m] at a;have c:=j (k+1) (pre++v.cells.toList) (rest.drop sz) (λu hu=>d u (by simp[hu])) (by rw[qI,g,e,A7,Xt]) (by rw[Tf,f];omega);simp only[List.zipIdx_cons,y5]
  show(if(decide (v.cells.size≠sz)||decide (k*sz+v.cells.size>(pre++rest).toArray.size)) then none
   else Instr.fill (λi=>some (i*sz,sz)) (v.cells.zipIdx.foldl (λcs (x:Value×Nat)=>cs.setIfInBounds (k*sz+x.2) x.1) (pre++rest).toArray) ((pv.zipIdx (k+1)).map λx=>(x.2,x.1)))=_
  rw[cI (by simp only[h,YK,qI];simp;omega),<-adP,aei]
  have b:List.foldl (λcs (x:Value×Nat)=>cs.setIfInBounds (k*sz+x.2) x.1) (pre++rest).toArray v.cells.toList.zipIdx=(pre++v.cells.toList++rest.drop sz).toArray:=by
   apply H3.1;rw[a]
  rw[b,c];simp[Es,ry]
end
section
variable{T:ec} {n B0:Nat} {ρ:Maps} {F:nc} {R:Nat->si} {fr:Fr} {H:dd} {a:Act} {w:World}
def mE(F:nc)(b k:Nat)(vs:List Value):nc:=λa j=>if a=b/\j<k then vs[j]?else F a j
def Bb(F:nc)(b:Nat)(vs:List Value):(mE F b vs.length vs).has b 0 vs:=by
 intro i v a;show(if b=b/\0+i<vs.length then vs[0+i]?else F b (0+i))=some v;rw[tG,cK ⟨rfl,(qb.1 a).1⟩];exact a
def WR.freeze(h:WR T n B0 ρ F R fr H a w){b:Nat}{vs:Array Value}{ty:TypeId}{k:Nat}{us:List Value}(i:R b=.free)(hF:∀j,F b j=none)
  (z:w.heap[b]?=some (.cells vs ty (0,0))) (t:NO vs) (A:∀j v,j<k->us[j]?=some v->vs[j]?=some v):zc F (mE F b k us) ρ ρ/\WR T n B0 ρ (mE F b k us) R fr H a w:=by
 have hold:∀f j v,F f j=some v->mE F b k us f j=some v:=by
  intro f j v p;unfold mE;rw[cI]
  ·exact p
  ·rintro⟨rfl,_⟩;rw[hF j] at p;cases p
 have e:∀f j,f≠b->mE F b k us f j=F f j:=by
  intro f j B;unfold mE;rw[cI (λh=>B h.1)]
 have q:∀G n,Kk F (mE F b k us) G G n n:=λG n=>⟨hold,ig _,λ_ _=>rfl⟩;have r:zc F (mE F b k us) ρ ρ:=⟨q _ _,λ_=>ig _,λ_ _ _=>rfl,λ_=>ig _,λ_ _ _=>rfl⟩;refine⟨r,⟨⟨?_,?_,h.g.inj,?_,?_,λg x N=>(h.g.F9 g x N).grow (q _ _),?_⟩,h.size,h.defers,h.env.grow r,h.hn,h.lg,h.ag,?_,?_,?_,h.qa,h.ny,h.tU⟩⟩
 ·intro f j v p;unfold mE at p
  split at p
  ·rename_i O;obtain⟨rfl,C⟩:=O;rw[cell_of_row w f j vs ty (0,0) z];exact A j v C p
  ·exact h.g.JO f j v p
 ·intro o cs y;obtain⟨D,u,s⟩:=h.g.oB o cs y;exact⟨D,u,s.grow (q _ _)⟩
 ·intro o j y E;rw[e]
  ·exact h.g.gF o j y E
  ·rintro rfl;have:=h.qa o y;rw[i] at this;cases this
 ·intro f j l;rw[e]
  ·exact h.g.fresh f j l
  ·rintro rfl;have:=s8 z;omega
 ·intro P f j v p
  by_cases l:f=b
  ·subst l;exact⟨vs,ty,_,z,.inl rfl,t⟩
  ·rw[e _ _ l] at p;exact h.g.row P f j v p
 ·intro d cs Q;obtain⟨u,s,I,vs',J,K,L⟩:=h.box d cs Q;exact⟨u,s,I,vs',J,K,L.mono λ_ _ _ h=>h.grow r⟩
 ·intro k' m S f c sz U;obtain⟨u,s,I,M,K,L⟩:=h.tok k' m S f c sz U;refine⟨u,s,I,M,K,λj C=>?_⟩;rw[e]
  ·exact L j C
  ·rintro rfl;rw[i] at s;cases s
 ·intro f j v p
  by_cases l:f=b
  ·subst l;rw[i];simp
  ·rw[e _ _ l] at p;exact h.s5 f j v p
def yh{F:nc}{b k:Nat}{us:List Value}{a j:Nat}(h:a≠b):mE F b k us a j=F a j:=by
 unfold mE;rw[cI (λc=>h c.1)]
end
def qx(P:Program)(t n:Nat)(parts:List (Nat×AV)):Option AV:=
 match rp P t with
 |some (_,sz)=>
  if parts.map (·.1)=List.range n/\parts.all (λp=>p.2.cells.length==sz&&e9 p.2)=true/\n*sz<=16777216 then some (.slice .full (parts.map λp=>p.2.norm))else none
 |none=>none
def Lg{α:Type}(parts:List (Nat×α))(n:Nat)(h:parts.map (·.1)=List.range n):parts=(parts.map (·.2)).zipIdx.map λx=>(x.2,x.1):=by
 have c:parts.length=n:=by have:=congrArg List.length h;simpa using this
 apply List.ext_getElem
 ·simp
 ·intro i b d
  have a:(parts.map (·.1))[i]?=(List.range n)[i]?:=by rw[h]
  simp only[xr,nw b,UW,X' (show i<n by omega),wh] at a;simp only[List.getElem_map,List.getElem_zipIdx,tG];exact Prod.ext a rfl
section
variable{P:Program} {T:ec} {n:Nat} {G0:Nat->Nat} {F0:nc} {n0:Nat} {w0:World} {fr:Fr} {H:dd} {a:Act} {w:World}
def Lu(w:World){t e:TypeId}{sz:Nat}(h:rp P t=some (e,sz)):(Instr.buildSlice t 0 #[]).run P w=.ok (.slice (some ⟨w.heap.size,0,none⟩) 0 0) (w.alloc (.cells #[] e)):=by
 obtain⟨i,z,hu,hi,b,_⟩:=ql h;simp[Instr.buildSlice,run_underlying hu,sizeOf,typeInfo,hi,Instr.fill,newRow]
 have a:((Array.range 0).map λ_=>(default:Value))=#[]:=by
  apply Yg;simp
 rw[a]
def TT{F:nc}{ρ:Maps}:∀{parts:List (Nat×AV)} {pv:List (Nat×Value)},iU (λ(x:Nat×AV) (y:Nat×Value)=>x.1=y.1/\h_ F ρ x.2 y.2) parts pv->(∀p∈parts,e9 p.2=true)->iU (ic F ρ.G ρ.n) ((parts.map λp=>p.2.norm).flatMap AV.cells) ((pv.map (·.2)).flatMap λv=>v.cells.toList)/\∀c∈(parts.map λp=>p.2.norm).flatMap AV.cells,c.gw=true:=by
 intro parts pv h hn
 induction h with
 |nil=>exact⟨.nil,aaB⟩|@cons p q ps j d _ e=>
  obtain⟨i1,i2⟩:=e λp f=>hn p (by simp[f]);have a:=hn p aaB;have g:=d.2.cells (kE a);have i:=d.2.wm (kE a)
  have b:iU (ic F ρ.G ρ.n) p.2.norm.cells q.2.cells.toList:=by
   rw[AV.xZ a];exact g.Az AV.kM λ_ _ _ h=>h.kM
  refine⟨?_,?_⟩
  ·simp only[y5,Es];exact b.append i1
  ·intro c hcm;simp only[y5,Es,rS] at hcm;rcases hcm with hcm|hcm
   ·rw[AV.xZ a] at hcm;exact B_ i c hcm
   ·exact i2 c hcm
def Fy{ρ:Maps}{F:nc}(w:World){t k:Nat}{parts:List (Nat×AV)}{pv:List (Nat×Value)}{r:AV}
  (g:qx P t k parts=some r) (b:iU (λ(x:Nat×AV) (y:Nat×Value)=>x.1=y.1/\h_ F ρ x.2 y.2) parts pv):∃l us e sz,r=.slice .full l/\l.length=k/\k<=maxLen/\(∀x∈l,x.cells.length=sz)/\iU (ic F ρ.G ρ.n) (l.flatMap AV.cells) us/\(∀c∈l.flatMap AV.cells,c.gw=true)/\(Instr.buildSlice t k pv.toArray).run P w=.ok (.slice (some ⟨w.heap.size,0,none⟩) k k) (w.alloc (.cells us.toArray e)):=by
 unfold qx at g
 split at g
 ·rename_i e sz A
  split at g
  ·rename_i L;obtain⟨j,B,M⟩:=L;injection g with g;subst g;obtain⟨i,z,hu,hi,N,O,m,Q,h⟩:=ql A
   have a:∀p∈parts,p.2.cells.length=sz/\e9 p.2=true:=by
    intro p d;have:=iC.1 B p d;simpa using this
   have o:parts.length=k:=by have:=congrArg List.length j;simpa using this
   have s:pv.length=k:=by rw[<-b.length];exact o
   have C:pv.map (·.1)=List.range k:=by
    rw[<-j];clear j B a o s
    induction b with
    |nil=>rfl|cons H _ R=>simp only[y5,R,H.1]
   have D:=Lg pv k C
   have I:∀v∈pv.map (·.2),v.cells.size=sz:=by
    intro v S;obtain⟨q,T,rfl⟩:=nU.1 S;obtain⟨p,d,U⟩:=b.mem T;have H:=U.2.cells (kE (a p d).2);have:=H.length;rw[(a p d).1] at this;simpa using this.symm
   obtain⟨u,f⟩:=TT b λp d=>(a p d).2
   have E:(Instr.buildSlice t k pv.toArray).run P w=.ok (.slice (some ⟨w.heap.size,0,none⟩) k k) (w.alloc (.cells ((pv.map (·.2)).flatMap λv=>v.cells.toList).toArray e)):=by
    rcases Nat.eq_zero_or_pos k with J|hkpos
    ·subst J;have:pv=[]:=Dq s;subst this;exact Lu w A
    ·have K:=fill_flat (sz:=sz) (pv.map (·.2)) 0 [] ((Array.range (k*sz)).map (z.cells[· %z.cells.size]!)).toList I aaB (by simp[s])
     rw[<-D] at K;simp only[kW,TH] at K;exact run_buildSlice w t e k pv.toArray _ i z hu hi N (by rw[m];omega) (by rw[m];have:=Nat.mul_pos hkpos h;omega) (by rw[m];exact K)
   refine⟨parts.map λp=>p.2.norm,_,e,sz,rfl,by simp[o],?_,?_,u,f,E⟩
   ·have:k<=k*sz:=Wd k h;simp only[maxLen];omega
   ·intro x V;obtain⟨p,d,rfl⟩:=nU.1 V;rw[AV.xZ (a p d).2,Eb];exact(a p d).1
  ·cases g
 ·cases g
def Ku{ρ:Maps}{F:nc}{R:Nat->si}(h:WR T n w0.heap.size ρ F R fr H a w)(D:Ext w0.heap.size G0 F0 n0 w0 ρ.G F H.length w){t k:Nat}{parts:List (Nat×AV)}{pv:List (Nat×Value)}{r:AV}
  {dst:Option Nat} (A:qx P t k parts=some r) (i:iU (λ(x:Nat×AV) (y:Nat×Value)=>x.1=y.1/\h_ F ρ x.2 y.2) parts pv) (E:∀d,dst=some d->d<n):∃v w',(Instr.buildSlice t k pv.toArray).run P w=.ok v w'/\SR T n G0 F0 n0 w0 (fr.put dst r) H (a.put dst v) w':=by
 obtain⟨l,us,e,sz,rfl,B,Gy,s,c,f,m⟩:=Fy w A i;have q:=heap_alloc_new w (.cells us.toArray e);obtain⟨z,hw⟩:=(h.alloc (.cells us.toArray e)).freeze (us:=us) (k:=us.length) (h.ny _ (ig _)) (λj=>h.g.fresh _ j (ig _)) q (λu hu=>lr (c.mono λ_ _ _ h=>lH.p h) f u (by simpa using hu)) (by intro j v _ I;simpa using I);refine⟨_,_,m,ρ,_,R,hw.put E (x:=.slice .full l) (v:=.slice (some ⟨w.heap.size,0,none⟩) k k) ?_,?_⟩
 ·have C:=ic.slice (F:=mE F w.heap.size us.length us) (G:=ρ.G) (n:=ρ.n) (tag:=.full) (l:=l) (b:=w.heap.size) (o:=0) (base:=some ⟨w.heap.size,0,none⟩) (cap:=l.length) (sz:=sz)
   (.so (c.mono λ_ _ _ h=>h.grow z.g)) (Bb _ _ _) (λ_=>rfl) s f (ig _) (by rw[B];exact Gy) (.inr ⟨rfl,rfl⟩)
  rw[B] at C;exact .p C
 ·exact(D.alloc h.tU (.cells us.toArray e)).freeze (F':=mE F w.heap.size us.length us) λb j A=>yh (by have:=h.tU;omega)
end
def sX(fr:Fr)(tag:Tag)(l:List AV):Bool:=
 match tag with
 |.jU=>false|.full=>true|.loc k g=>g==fr.fu k&&fr.yB k==some l.length
def zm(tag:Tag)(yB:Nat->Option Nat):Nat->Option Nat:=
 match tag with
 |.loc k _=>ia yB k none|_=>yB
def grown(fr:Fr)(d:Nat)(tag:Tag)(l m:List AV):Fr:=
 {fr with env:=ia fr.env d (.slice (.loc d (fr.fu d+1)) (l++m)),yB:=ia (zm tag fr.yB) d (some (l.length+m.length)),fu:=ia fr.fu d (fr.fu d+1)}
def qG(P:Program)(T:ec)(c:Call)(dst:Option Nat)(K:Fr->dd->Prop)(fr:Fr)(H:dd):Prop:=
 match dst,c.args.toList,c.argTypes.toList with
 |some d,[s,x],[t,a]=>
  match rp P t,ev T fr s,ev T fr x with
  |some (_,sz),.slice tag l,.slice _ m=>
   a=t/\mN sz l=true/\mN sz m=true/\l.length+m.length<=mw/\(if sX fr tag l then K (grown fr d tag l m) H else m=[]/\K (fr.put (some d) (.slice .jU l)) H)
  |_,_,_=>False
 |_,_,_=>False
section
variable{P:Program} {T:ec} {n:Nat} {G0:Nat->Nat} {F0:nc} {n0:Nat} {w0:World} {fr:Fr} {H:dd} {a:Act} {w:World}
def Lj(w:World){t e:TypeId}{sz:Nat}(h:rp P t=some (e,sz))(ty:TypeId)(base:Option Addr)(len cap:Nat)(a:len<=cap)(x:Value)(f:∃b c,x=.slice b 0 c):(Builtin.append_ #[t,t] ty #[.slice base len cap,x]).run P w=.ok (.slice base len cap) w:=by
 obtain⟨i,z,hu,hi,m,g,j,k,d⟩:=ql h;obtain⟨b,c,rfl⟩:=f;cases b with
 |none=>
  cases base with
  |none=>simp[Builtin.append_,run_underlying hu,sizeOf,typeInfo,hi,Builtin.lenOf,a,Builtin.firstCells]|some l=>simp[Builtin.append_,run_underlying hu,sizeOf,typeInfo,hi,Builtin.lenOf,a,Builtin.firstCells,storeCells]
 |some b=>
  cases base with
  |none=>simp[Builtin.append_,run_underlying hu,sizeOf,typeInfo,hi,Builtin.lenOf,a,Builtin.firstCells,loadCells,loadCellsFrom]|some l=>simp[Builtin.append_,run_underlying hu,sizeOf,typeInfo,hi,Builtin.lenOf,a,Builtin.firstCells,storeCells,loadCells,loadCellsFrom]
def BT(w:World)(t ty e n:TypeId)(i:TypeInfo)(o:P.underlying t=some (.slice e))(hi:P.info? e=some i)
  (g b d:Nat) (cur:Array Value) (hg:w.heap[g]?=some (.cells cur n (0,0)))
  (a:Addr) (m c:Nat) (news:List Value) (p:news.length=m*i.size) (f:∀j u,news[j]?=some u->w.cell? (a.add j)=some u) (q:∀u∈news,u.oneCell'=true)
  (h:b+m<=d) (k:b*i.size+news.length<=cur.size):(Builtin.append_ #[t,t] ty #[.slice (some ⟨g,0,none⟩) b d,.slice (some a) m c]).run P w=.ok (.slice (some ⟨g,0,none⟩) (b+m) d) (w.setRow g (cur.toList.take (b*i.size)++news++cur.toList.drop (b*i.size+news.length)).toArray):=by
 have r:=run_firstCells_some (P:=P) w i.size m a m c news p f;have l:=run_storeCells_at P g (b*i.size) n news 0 cur w hg (by simpa using k) q;simp only[FW] at l;simp[Builtin.append_,run_underlying o,sizeOf,typeInfo,hi,Builtin.lenOf,h,r,Addr.add_lit,l]
def WR.rename{ρ:Maps}{F:nc}{R:Nat->si}{B0:Nat}(h:WR T n B0 ρ F R fr H a w){tag:Tag}{l:List AV}{base:Option Addr}{cap d:Nat}(hd:d<n)
  (hp:ic F ρ.G ρ.n (.slice .jU l) (.slice base l.length cap)) (y:tag=.full/\cap=l.length\/∃k g,tag=.loc k g/\g=fr.fu k/\fr.yB k=some l.length/\x_ ρ k g l base cap):∃ρ' Q,ρ'.G=ρ.G/\ρ'.n=ρ.n/\(∀k g,tag=.loc k g->ρ'.A d (fr.fu d+1)=ρ.A k g)/\ρ'.ag d=fr.fu d+1/\WR T n B0 ρ' F Q (grown fr d tag l []) H (a.put (some d) (.slice base l.length cap)) w:=by
 let f:Option (Nat×Nat×Nat):=match tag with|.loc k g=>ρ.A k g|_=>none
 let ρ':Maps:={ρ with A:=wI ρ.A d (fr.fu d+1) f,ag:=ia ρ.ag d (fr.fu d+1)}
 let Q:Nat->si:=match f with|some (b,_,_)=>ia R b (.arr d)|none=>R
 have B:zc F F ρ ρ':=by
  refine⟨.refl,λ_=>ig _,λ_ _ _=>rfl,λk=>?_,λk g hg=>?_⟩
  ·show ρ.ag k<=ia ρ.ag d (fr.fu d+1) k;unfold ia
   split
   ·rename_i S;subst S;rw[h.ag];omega
   ·exact ig _
  ·show wI ρ.A d (fr.fu d+1) f k g=ρ.A k g;unfold wI;rw[cI];rintro⟨rfl,rfl⟩;rw[h.ag] at hg;omega
 have i:∀b c sz,f=some (b,c,sz)->∃k g,tag=.loc k g/\g=fr.fu k/\fr.yB k=some l.length/\ρ.A k (fr.fu k)=some (b,c,sz)/\base=some ⟨b,0,none⟩/\cap=c/\∀x∈l,x.cells.length=sz:=by
  intro b c sz q;rcases y with⟨rfl,_⟩|⟨k,g,rfl,rfl,z,t⟩
  ·exact absurd q (by simp[f])
  ·refine⟨k,_,rfl,rfl,z,q,?_⟩;unfold x_ at t;have C:ρ.A k (fr.fu k)=some (b,c,sz):=q;rw[C] at t;exact t
 have D:∀J,(∀k,R J≠ .arr k)->Q J=R J:=by
  intro J W;show(match f with|some (b,_,_)=>ia R b (.arr d)|none=>R) J=R J;cases q:f with
  |none=>rfl|some p=>
   obtain⟨b,c,sz⟩:=p;obtain⟨k,g,_,_,z,r,_⟩:=i b c sz q;have K:=(h.tok k _ z b c sz r).2.1;simp only[ia];rw[cI];rintro rfl;exact W k K
 have M:x_ ρ' d (fr.fu d+1) l base cap:=by
  unfold x_
  have e:ρ'.A d (fr.fu d+1)=f:=by show wI ρ.A d (fr.fu d+1) f d (fr.fu d+1)=f;simp[wI]
  rw[e];cases q:f with
  |none=>
   rcases y with⟨_,hc⟩|⟨k,g,rfl,rfl,z,t⟩
   ·exact hc
   ·unfold x_ at t;have C:ρ.A k (fr.fu k)=none:=q;rw[C] at t;exact t
  |some p=>
   obtain⟨b,c,sz⟩:=p;obtain⟨_,_,_,_,_,_,X,U,Y⟩:=i b c sz q;exact⟨X,U,Y⟩
 refine⟨ρ',Q,rfl,rfl,?_,by show ia ρ.ag d (fr.fu d+1) d=_;simp[ia],⟨⟨h.g.JO,h.g.oB,h.g.inj,h.g.gF,h.g.fresh,h.g.F9,h.g.row⟩,by rw[I1];exact h.size,by rw[put_defers];exact h.defers,?_,h.hn,h.lg,?_,?_,?_,?_,?_,?_,h.tU⟩⟩
 ·rintro k g rfl;show wI ρ.A d (fr.fu d+1) f d (fr.fu d+1)=ρ.A k g;simp[wI,f]
 ·have h0:=(h.env.grow B).put (d:=some d) (by intro E he;injection he with he;subst he;rw[h.size];exact hd) (x:=.slice (.loc d (fr.fu d+1)) l) (v:=.slice base l.length cap)
   (.cell (.loc (hp.grow B.g) (by show _<=ia ρ.ag d (fr.fu d+1) d;simp[ia]) M))
  simp only[grown,zk];exact h0
 ·intro k;show ia ρ.ag d (fr.fu d+1) k=ia fr.fu d (fr.fu d+1) k;unfold ia
  split
  ·rfl
  ·exact h.ag k
 ·intro E cs Z;obtain⟨X,U,Y,vs,ty,h4,h5⟩:=h.box E cs Z;exact⟨X,by rw[D _ (by intro k;show R (ρ.L E (fr.gen E))≠_;rw[U];simp)];exact U,Y,vs,ty,h4,h5.mono λ_ _ _ h=>h.grow B⟩
 ·intro k m s b c sz q;simp only[grown,ia] at s
  by_cases u:k=d
  ·subst u;simp only[if_true,tY,FW,wh] at s;subst s
   have N:(grown fr k tag l []).fu k=fr.fu k+1:=by simp[grown,ia]
   rw[N] at q
   have V:ρ'.A k (fr.fu k+1)=f:=by show wI ρ.A k (fr.fu k+1) f k (fr.fu k+1)=f;simp[wI]
   rw[V] at q;obtain⟨k2,g2,_,_,z,r,ak,an,ao⟩:=i b c sz q;obtain⟨N,V,e3,aa,O,e5⟩:=h.tok k2 _ z b c sz r;refine⟨N,?_,e3,aa,O,e5⟩;show(match f with|some (b,_,_)=>ia R b (.arr k)|none=>R) b=.arr k;rw[q];simp[ia]
  ·simp only[cI u] at s
   have N:(grown fr d tag l []).fu k=fr.fu k:=by simp[grown,ia,u]
   rw[N] at q
   have V:ρ'.A k (fr.fu k)=ρ.A k (fr.fu k):=by show wI ρ.A d (fr.fu d+1) f k (fr.fu k)=_;simp[wI,u]
   rw[V] at q
   have P:fr.yB k=some m/\∀k2 g2,tag=.loc k2 g2->k≠k2:=by
    unfold zm at s
    split at s
    ·rename_i k2 g2;simp only[ia] at s
     split at s
     ·cases s
     ·rename_i ab;refine⟨s,λk3 g3 he=>?_⟩;injection he with ad aq;subst ad;exact ab
    ·rename_i ae;exact⟨s,λk3 g3 he=>absurd he (ae k3 g3)⟩
   obtain⟨e3,O,e5,af,e6,e7⟩:=h.tok k m P.1 b c sz q;refine⟨e3,?_,e5,af,e6,e7⟩;show(match f with|some (b,_,_)=>ia R b (.arr d)|none=>R) b=.arr k;cases ah:f with
   |none=>exact O|some p=>
    obtain⟨b3,c3,I⟩:=p;obtain⟨k2,g2,ai,_,z,r,_⟩:=i b3 c3 I ah;have K:=(h.tok k2 _ z b3 c3 I r).2.1;simp only[ia];rw[cI]
    ·exact O
    ·rintro rfl;rw[O] at K;injection K with K;exact P.2 k2 g2 ai K
 ·intro b j v hf;intro E;have S:=h.s5 b j v hf E;show(match f with|some (b,_,_)=>ia R b (.arr d)|none=>R) b≠ .box E;cases q:f with
  |none=>exact S|some p=>
   obtain⟨b3,c3,I⟩:=p;simp only[ia]
   split
   ·simp
   ·exact S
 ·intro o t;have:=h.qa o t;rw[D _ (by intro k;show R (ρ.G o)≠_;rw[this];simp)];exact this
 ·intro b hb;have:=h.ny b hb;rw[D b (by rw[this];simp)];exact this
end
end Go.ns
namespace Go.ns
open Go
def P6{α:Type}(f:Nat->α)(i:Nat)(x y:α):ia (ia f i x) i y=ia f i y:=by
 funext j
 unfold ia
 split<;>rfl
def EY{α:Type}(f:Nat->α)(i j:Nat)(x:α)(h:j≠i):ia f i x j=f j:=by simp[ia,h]
def BI{a:Array Value}(h:∀u∈a.toList,u.oneCell'=true)(c:0<a.size)(k:Nat):∀u∈(Builtin.zeroCells a k).toList,u.oneCell'=true:=by
 intro u hu;unfold Builtin.zeroCells at hu;simp only[Rp,nU] at hu;obtain⟨i,_,rfl⟩:=hu;have b:i%a.size<a.size:=W5 _ c;rw[getElem!_pos a _ b];exact h _ aaB
def RH{P:Program}{t e:TypeId}{sz:Nat}(h:rp P t=some (e,sz)){i:TypeInfo}{z:Value}(hi:P.info? e=some i)(b:i.zero=some z):∀u∈z.cells.toList,u.oneCell'=true:=by
 unfold rp at h
 split at h
 ·rename_i f hu
  split at h
  ·rename_i g hi'
   split at h
   ·rename_i j a
    split at h
    ·rename_i c;injection h with h;injection h with d k;subst d;rw[hi] at hi';cases hi';rw[b] at a;cases a
     exactλu hu=>iC.1 c.2.2.2 u hu
    ·cases h
   ·cases h
  ·cases h
 ·cases h
section
variable{P:Program} {T:ec} {n B0:Nat} {ρ:Maps} {F:nc} {R:Nat->si} {fr:Fr} {H:dd} {a:Act} {w:World}
def WR.extend(h:WR T n B0 ρ F R fr H a w){d p q b c sz:Nat}{news:List Value}(ht:fr.yB d=some p)(hA:ρ.A d (fr.fu d)=some (b,c,sz))(hq:news.length=q*sz)(B:p+q<=c)(E:∀u∈news,u.oneCell'=true)
  {cur:Array Value} {ty:TypeId} (U:w.heap[b]?=some (.cells cur ty (0,0))):∃F',zc F F' ρ ρ/\(∀e j,e≠b->F' e j=F e j)/\(∀(j:Nat) (v:Value),news[j]?=some v->F' b (p*sz+j)=some v)/\WR T n B0 ρ F' R {fr with yB:=ia fr.yB d (some (p+q))} H a (w.setRow b (cur.toList.take (p*sz)++news++cur.toList.drop (p*sz+news.length)).toArray):=by
 obtain⟨h1,W,h3,X,⟨vs,s,V,h5,L⟩,Y⟩:=h.tok d p ht b c sz hA;rw[U] at V;injection V with V;injection V with Z M;subst Z;subst M;have aa:(p+q)*sz<=c*sz:=Lt _ B;rw[A7] at aa
 have ab:p*sz<=cur.toList.length:=aaP
 let F':nc:=λe j=>if e=b/\p*sz<=j/\j<p*sz+news.length then news[j-p*sz]?else F e j
 have hold:∀e j v,F e j=some v->F' e j=some v:=by
  intro e j v l;show(if e=b/\p*sz<=j/\j<p*sz+news.length then news[j-p*sz]?else F e j)=some v;rw[cI]
  ·exact l
  ·rintro⟨rfl,C,_⟩;rw[Y j C] at l;cases l
 have f:∀e j,e≠b->F' e j=F e j:=by
  intro e j t;show(if e=b/\p*sz<=j/\j<p*sz+news.length then news[j-p*sz]?else F e j)=F e j;rw[cI (λh=>t h.1)]
 have N:∀(j:Nat) (v:Value),news[j]?=some v->F' b (p*sz+j)=some v:=by
  intro j v hv;have C:=(qb.1 hv).1;show(if b=b/\p*sz<=p*sz+j/\p*sz+j<p*sz+news.length then news[p*sz+j-p*sz]?else F b (p*sz+j))=some v;rw[cK ⟨rfl,VW,VW⟩,Nat.add_sub_cancel_left];exact hv
 have I:∀G n,Kk F F' G G n n:=λG n=>⟨hold,ig _,λ_ _=>rfl⟩;have J:zc F F' ρ ρ:=⟨I _ _,λ_=>ig _,λ_ _ _=>rfl,λ_=>ig _,λ_ _ _=>rfl⟩
 have y:∀e,R e≠ .arr d->e≠b:=by rintro e i rfl;exact i W
 have D:NO (cur.toList.take (p*sz)++news++cur.toList.drop (p*sz+news.length)).toArray:=by
  intro u hu;simp only[rS] at hu;rcases hu with(hu|hu)|hu
  ·exact L u (Hi hu)
  ·exact E u hu
  ·exact L u (Nl hu)
 have r:=setRow_heap w b cur (cur.toList.take (p*sz)++news++cur.toList.drop (p*sz+news.length)).toArray ty (0,0) U;refine⟨F',J,f,N,⟨⟨?_,?_,h.g.inj,?_,?_,λg x hx=>(h.g.F9 g x hx).grow (I _ _),?_⟩,h.size,h.defers,h.env.grow J,h.hn,h.lg,h.ag,?_,?_,?_,h.qa,?_,by rw[size_setRow];exact h.tU⟩⟩
 ·intro e j v l
  by_cases i:e=b
  ·subst i;rw[cell_of_row _ e j _ ty (0,0) r];simp only[adi];change (if e=e/\p*sz<=j/\j<p*sz+news.length then news[j-p*sz]?else F e j)=some v at l
   split at l
   ·rename_i hc;rw[ry,xj (by rw[Dr];omega),Dr,Ts ab,s_ VW];exact l
   ·rename_i hc
    have C:j<p*sz:=by
     rcases tv j (p*sz)with h'|h'
     ·exact h'
     ·rw[Y j h'] at l;cases l
    have:=h.g.JO e j v l;rw[cell_of_row w e j cur ty (0,0) U] at this;rw[ry,s_ (by rw[Dr];omega),Me,cK C];simpa using this
  ·rw[cell_setRow_other _ _ _ _ _ i];rw[f _ _ i] at l;exact h.g.JO e j v l
 ·intro o cs O;obtain⟨ad,g1,g2⟩:=h.g.oB o cs O;refine⟨ad,?_,g2.grow (I _ _)⟩;rw[setRow_other]
  ·exact g1
  ·exact y _ (by rw[h.qa o (qb.1 O).1];simp)
 ·intro o j O ae;rw[f]
  ·exact h.g.gF o j O ae
  ·exact y _ (by rw[h.qa o O];simp)
 ·intro e j i;rw[size_setRow] at i;rw[f]
  ·exact h.g.fresh e j i
  ·rintro rfl;have:=s8 U;omega
 ·intro hT e j v l
  by_cases i:e=b
  ·subst i;exact⟨_,ty,_,r,.inl rfl,D⟩
  ·rw[f _ _ i] at l;obtain⟨af,ah,ai,g1,g2⟩:=h.g.row hT e j v l;exact⟨af,ah,ai,by rw[setRow_other _ _ _ _ i];exact g1,g2⟩
 ·intro d' cs ak;obtain⟨g1,g2,g3,vs',s,g4,g5⟩:=h.box d' cs ak;refine⟨g1,g2,g3,vs',s,?_,g5.mono λ_ _ _ h=>h.grow J⟩;rw[setRow_other]
  ·exact g4
  ·exact y _ (by rw[g2];simp)
 ·intro k m P e c' Q S;simp only[ia] at P
  by_cases K:k=d
  ·subst K;simp only[if_true,wh] at P;subst P;have z:ρ.A k (fr.fu k)=some (e,c',Q):=S;rw[hA] at z;injection z with z;injection z with Z M;injection M with M e3;subst Z;subst M;subst e3;refine⟨h1,W,⟨by have:=h3.1;omega,B⟩,X,⟨_,ty,r,?_,D⟩,?_⟩
   ·simp only[YK,qI,Dr,Tf,Ua];omega
   ·intro j C;rw[A7,<-hq] at C;show(if b=b/\p*sz<=j/\j<p*sz+news.length then news[j-p*sz]?else F b j)=none;rw[cI VW];exact Y j VW
  ·simp only[cI K] at P;obtain⟨g1,g2,g3,an,⟨vs',s,g4,g5⟩,g6⟩:=h.tok k m P e c' Q S;have t:e≠b:=y _ (by rw[g2];simp[K]);refine⟨g1,g2,g3,an,⟨vs',s,by rw[setRow_other _ _ _ _ t];exact g4,g5⟩,λj C=>?_⟩;rw[f _ _ t];exact g6 j C
 ·intro e j v l
  by_cases i:e=b
  ·subst i;rw[W];simp
  ·rw[f _ _ i] at l;exact h.s5 e j v l
 ·intro e i;rw[size_setRow] at i;exact h.ny e i
def WR.V3(h:WR T n B0 ρ F R fr H a w){b:Nat}{vs:Array Value}{ty:TypeId}{us:List Value}{c sz:Nat}{tag:Tag}{l m:List AV}{d:Nat}(hd:d<n)(hb:B0<=b)(p:R b=.free)
  (hF:∀j,F b j=none) (U:w.heap[b]?=some (.cells vs ty (0,0))) (y:NO vs) (V:vs.size=c*sz) (W:0<l.length+m.length) (hp:l.length+m.length<=c) (hc:c<=maxLen) (ae:us.length=(l.length+m.length)*sz)
  (E:∀(j:Nat) (v:Value),us[j]?=some v->vs[j]?=some v) (s:iI F ρ.G ρ.n ((l++m).flatMap AV.cells) us) (I:∀x∈(l++m).flatMap AV.cells,x.gw=true) (J:∀x∈l++m,x.cells.length=sz):∃ρ' K,ρ'.G=ρ.G/\WR T n B0 ρ' (mE F b us.length us) K (grown fr d tag l m) H (a.put (some d) (.slice (some ⟨b,0,none⟩) (l.length+m.length) c)) w:=by
 obtain⟨z,M⟩:=h.freeze (k:=us.length) (us:=us) p hF U y (λj v _ hv=>E j v hv)
 let ρ':Maps:={ρ with A:=wI ρ.A d (fr.fu d+1) (some (b,c,sz)),ag:=ia ρ.ag d (fr.fu d+1)}
 let K:Nat->si:=ia R b (.arr d)
 have t:zc F (mE F b us.length us) ρ ρ':=by
  refine⟨z.g,λ_=>ig _,λ_ _ _=>rfl,λk=>?_,λk g hg=>?_⟩
  ·show ρ.ag k<=ia ρ.ag d (fr.fu d+1) k;unfold ia
   split
   ·rename_i h';subst h';rw[h.ag];omega
   ·exact ig _
  ·show wI ρ.A d (fr.fu d+1) (some (b,c,sz)) k g=ρ.A k g;unfold wI;rw[cI];rintro⟨rfl,rfl⟩;rw[h.ag] at hg;omega
 have B:zc (mE F b us.length us) (mE F b us.length us) ρ ρ':=⟨.refl,t.lg,t.L,t.ag,t.A⟩
 have q:∀f,R f≠ .free->K f=R f:=by
  intro f i;show ia R b (.arr d) f=R f;unfold ia;rw[cI];rintro rfl;exact i p
 have af:∀f,R f≠ .free->f≠b:=by rintro f i rfl;exact i p
 refine⟨ρ',K,rfl,⟨M.g,by rw[I1];exact h.size,by rw[put_defers];exact h.defers,?_,h.hn,h.lg,?_,?_,?_,?_,?_,?_,h.tU⟩⟩
 ·have N:h_ (mE F b us.length us) ρ' (.slice (.loc d (fr.fu d+1)) (l++m)) (.slice (some ⟨b,0,none⟩) (l.length+m.length) c):=by
   have hlen:(l++m).length=l.length+m.length:=qI
   have O:=ic.slice (F:=mE F b us.length us) (G:=ρ'.G) (n:=ρ'.n) (tag:=.jU) (l:=l++m) (b:=b) (o:=0) (base:=some ⟨b,0,none⟩) (cap:=c) (sz:=sz)
    (s.grow z.g) (Bb F b us) (λ_=>rfl) J I VW hc (.inl rfl)
   rw[hlen] at O;rw[<-hlen];refine .cell (.loc (by rw[hlen];exact O) (by show _<=ia ρ.ag d (fr.fu d+1) d;simp[ia]) ?_);unfold x_
   have e:ρ'.A d (fr.fu d+1)=some (b,c,sz):=by show wI ρ.A d (fr.fu d+1) (some (b,c,sz)) d (fr.fu d+1)=_;simp[wI]
   rw[e];exact⟨rfl,rfl,J⟩
  have X:=(M.env.grow B).put (d:=some d) (by intro P he;injection he with he;subst he;rw[h.size];exact hd) N;exact X
 ·intro k;show ia ρ.ag d (fr.fu d+1) k=ia fr.fu d (fr.fu d+1) k;unfold ia
  split
  ·rfl
  ·exact h.ag k
 ·intro P cs Y;obtain⟨X,h2,h3,vs',Z,h4,h5⟩:=M.box P cs Y;exact⟨X,by rw[q _ (by show R (ρ.L P (fr.gen P))≠_;rw[h2];simp)];exact h2,h3,vs',Z,h4,h5.mono λ_ _ _ h=>h.grow B⟩
 ·intro k m' r f c' aa C;simp only[grown,ia] at r
  by_cases u:k=d
  ·subst u;simp only[if_true,wh] at r;subst r
   have Q:(grown fr k tag l m).fu k=fr.fu k+1:=by simp[grown,ia]
   rw[Q] at C
   have D:ρ'.A k (fr.fu k+1)=some (b,c,sz):=by show wI ρ.A k (fr.fu k+1) (some (b,c,sz)) k (fr.fu k+1)=_;simp[wI]
   rw[D] at C;injection C with C;injection C with Q D;injection D with D e3;subst Q;subst D;subst e3;refine⟨hb,by show ia R b (.arr k) b=.arr k;simp[ia],⟨W,hp⟩,hc,⟨vs,ty,U,V,y⟩,λj hj=>?_⟩;show(if b=b/\j<us.length then us[j]?else F b j)=none;rw[cI VW];exact hF j
  ·simp only[cI u] at r
   have Q:(grown fr d tag l m).fu k=fr.fu k:=by simp[grown,ia,u]
   rw[Q] at C
   have D:ρ'.A k (fr.fu k)=ρ.A k (fr.fu k):=by show wI ρ.A d (fr.fu d+1) _ k (fr.fu k)=_;simp[wI,u]
   rw[D] at C
   have ab:fr.yB k=some m':=by
    unfold zm at r
    split at r
    ·simp only[ia] at r
     split at r
     ·cases r
     ·exact r
    ·exact r
   obtain⟨e3,e4,e5,ad,e6,e7⟩:=M.tok k m' ab f c' aa C;exact⟨e3,by rw[q _ (by rw[e4];simp)];exact e4,e5,ad,e6,e7⟩
 ·intro f j v hf
  by_cases i:f=b
  ·subst i;intro P;show ia R f (.arr d) f≠_;simp[ia]
  ·have e:K f=R f:=by show ia R b (.arr d) f=R f;simp[ia,i]
   rw[e];exact M.s5 f j v hf
 ·intro o ho;have:=h.qa o ho;rw[q _ (by show R (ρ.G o)≠_;rw[this];simp)];exact this
 ·intro f i
  have S:f≠b:=by rintro rfl;have:=s8 U;omega
  show ia R b (.arr d) f=.free;simp only[ia,cI S];exact h.ny f i
end
section
variable{P:Program} {T:ec} {n:Nat} {G0:Nat->Nat} {F0:nc} {n0:Nat} {w0:World} {fr:Fr} {H:dd} {a:Act} {w:World}
def Kn(w:World){t e:TypeId}{sz:Nat}(n:rp P t=some (e,sz))(ty:TypeId)(base:Option Addr)(a d:Nat)(f:List Value)(holds:f.length=a*sz)
  (B:base=none->a=0/\d=0) (C:∀k,base=some k->∀j v,f[j]?=some v->w.cell? (k.add j)=some v)
  (k:Addr) (m c:Nat) (news:List Value) (p:news.length=m*sz) (hn:∀j v,news[j]?=some v->w.cell? (k.add j)=some v) (l:d<a+m) (o:a+m<=mw):∃cap rest,a+m<=cap/\cap<=maxLen/\(∀u∈rest,u.oneCell'=true)/\(f++news++rest).length=cap*sz/\(Builtin.append_ #[t,t] ty #[.slice base a d,.slice (some k) m c]).run P w=.ok (.slice (some ⟨w.heap.size,0,none⟩) (a+m) cap) (w.drew.alloc (.cells (f++news++rest).toArray e)):=by
 obtain⟨i,z,hu,hi,q,r,s,x,A⟩:=ql n;subst s;have h:a+m<=1099511627776:=o
 have g:(a+m)*i.bytes<=140737488355328:=by
  have:=DC h x;omega
 have Gy:a+m<=maxLen:=by simp only[maxLen];omega
 have y:=grownCap_ge w (a+m) d e;have hle:=grownCap_le_maxLen w (a+m) d e Gy;refine⟨grownCap w (a+m) d e,(Builtin.zeroCells z.cells (grownCap w (a+m) d e-(a+m))).toList,y,hle,BI (RH n hi q) VW _,?_,?_⟩
 ·simp only[qI,Ua,size_zeroCells,r,holds,p,<-A7]
  congr 1
  omega
 ·have D:(f++news++(Builtin.zeroCells z.cells (grownCap w (a+m) d e-(a+m))).toList).toArray=f.toArray++news.toArray++Builtin.zeroCells z.cells (grownCap w (a+m) d e-(a+m)):=by
   apply H3.1;simp
  rw[D];cases base with
  |some b=>
   exact run_append_grow w t ty e i z hu hi q b a d f holds (C b rfl) k m c news p hn l VW (growslice_fits l g)
  |none=>
   obtain⟨rfl,rfl⟩:=B rfl;have:f=[]:=Dq (by simpa using holds);subst this;simp only[tG] at l g h|-;have:=run_append_nil (P:=P) w t ty e i z hu hi q k m c news p hn VW VW VW;simpa using this
structure Ti (P:Program) (w:World) (t u e:TypeId) (sz k:Nat) (x:Value) (news:List Value) (ty:TypeId):Prop where
 none:k=0->∀(base:Option Addr) (len cap:Nat),len<=cap->(Builtin.append_ #[t,u] ty #[.slice base len cap,x]).run P w=.ok (.slice base len cap) w
 room:0<k->∀(g sLen sCap:Nat) (cur:Array Value) (e':TypeId),w.heap[g]?=some (.cells cur e' (0,0))->sLen+k<=sCap->sLen*sz+news.length<=cur.size->(Builtin.append_ #[t,u] ty #[.slice (some ⟨g,0,.none⟩) sLen sCap,x]).run P w=.ok (.slice (some ⟨g,0,.none⟩) (sLen+k) sCap) (w.setRow g (cur.toList.take (sLen*sz)++news++cur.toList.drop (sLen*sz+news.length)).toArray)
 grow:0<k->∀(base:Option Addr) (sLen sCap:Nat) (olds:List Value),olds.length=sLen*sz->(base=.none->sLen=0/\sCap=0)->(∀ad,base=some ad->∀j v,olds[j]?=some v->w.cell? (ad.add j)=some v)->sCap<sLen+k->sLen+k<=mw->∃cap rest,sLen+k<=cap/\cap<=maxLen/\(∀u∈rest,u.oneCell'=true)/\(olds++news++rest).length=cap*sz/\(Builtin.append_ #[t,u] ty #[.slice base sLen sCap,x]).run P w=.ok (.slice (some ⟨w.heap.size,0,.none⟩) (sLen+k) cap) (w.drew.alloc (.cells (olds++news++rest).toArray e))
def KJ{ρ:Maps}{F:nc}{R:Nat->si}(h:WR T n w0.heap.size ρ F R fr H a w)(hx:Ext w0.heap.size G0 F0 n0 w0 ρ.G F H.length w){d:Nat}{t u e ty:TypeId}{sz:Nat}{K:Fr->dd->Prop}{tag:Tag}{l m:List AV}{sv xv:Value}{B:List Value}
  (aD:rp P t=some (e,sz)) (aE:h_ F ρ (.slice tag l) sv) (aF:mN sz l=true) (src:Ti P w t u e sz m.length xv B ty) (r:iI F ρ.G ρ.n (m.flatMap AV.cells) B) (s:∀y∈m.flatMap AV.cells,y.gw=true)
  (M:∀y∈m,y.cells.length=sz) (ak:l.length+m.length<=mw) (N:d<n)
  (hK:if sX fr tag l then K (grown fr d tag l m) H else m=[]/\K (fr.put (some d) (.slice .jU l)) H):∃v w' fr' H',(Builtin.append_ #[t,u] ty #[sv,xv]).run P w=.ok v w'/\K fr' H'/\SR T n G0 F0 n0 w0 fr' H' (a.put (some d) v) w':=by
 obtain⟨base,cap,b,o,aT,vs,aG,f,ae,an⟩:=qM aE;rw[aG];obtain⟨i,z,hu,hi,hz,aU,aV,aW,aR⟩:=ql aD;have C:=vq aF f.sz;have D:ic F ρ.G ρ.n (.slice .jU l) (.slice base l.length cap):=.slice f.cells f.has f.base C f.wm f.Gc f.Gy (.inl rfl)
 split at hK
 ·rename_i J
  have O:tag=.full/\cap=l.length\/∃k g,tag=.loc k g/\g=fr.fu k/\fr.yB k=some l.length/\x_ ρ k g l base cap:=by
   unfold sX at J
   split at J
   ·cases J
   ·exact .inl ⟨rfl,ae rfl⟩
   ·rename_i k g;simp only[ez,X0] at J;exact .inr ⟨k,g,rfl,J.1,J.2,(an k g rfl).2⟩
  by_cases hm:m=[]
  ·subst hm;obtain⟨ρ',R',hG,_,_,_,hw⟩:=h.rename N D O;refine⟨_,_,_,_,src.none rfl _ _ _ f.Gc,hK,ρ',F,R',?_,by rw[hG];exact hx⟩;exact hw
  ·have Q:B.length=m.length*sz:=by rw[<-r.length,rX M]
   have I:vs.length=l.length*sz:=by rw[<-f.cells.length,rX C]
   have S:0<m.length:=T7.2 hm
   by_cases E:l.length+m.length<=cap
   ·--in place
    rcases O with⟨rfl,hc⟩|⟨k,g,rfl,hg,ht,Y⟩
    ·omega
    ·have L:=Y;unfold x_ at L;cases W:ρ.A k g with
     |none=>rw[W] at L;simp only at L;omega
     |some p=>
      obtain⟨b3,c3,x⟩:=p;rw[W] at L;simp only at L;obtain⟨rfl,rfl,aH⟩:=L;rw[hg] at W;obtain⟨t1,t2,t3,aX,⟨cur,aI,t4,t5,aY⟩,t6⟩:=h.tok k _ ht b3 cap x W;have af:∀u∈B,u.oneCell'=true:=lr (r.yS.mono λ_ _ _ h=>lH.p h) s
      have Z:l≠[]:=by rintro rfl;exact absurd t3.1 aaB
      have ao:x=sz:=by
       cases l with
       |nil=>exact absurd rfl Z|cons y ys=>rw[<-aH y aaB,C y aaB]
      subst ao;obtain⟨ρ',R',hG,aq,ar,aw,hw⟩:=h.rename N D (tag:=.loc k g) (.inr ⟨k,g,rfl,hg,ht,Y⟩)
      have ah:ρ'.A d ((grown fr d (.loc k g) l []).fu d)=some (b3,cap,x):=by
       have e:(grown fr d (.loc k g) l []).fu d=fr.fu d+1:=by simp[grown,ia]
       rw[e,ar k g rfl,hg];exact W
      have ax:(grown fr d (.loc k g) l []).yB d=some l.length:=by simp[grown,ia]
      obtain⟨F',ay,X,az,aJ⟩:=hw.extend ax ah Q E af t4
      have aK:b=b3/\o=0:=by
       have:=f.base Z;injection this with this;injection this with e1 e2;exact⟨e1.symm,e2.symm⟩
      obtain⟨rfl,rfl⟩:=aK
      have U:=src.room S b l.length cap cur aI t4 E (by
       rw[Q,<-A7,t5];exact Lt _ E)
      have aA:h_ F' ρ' (.slice (.loc d (fr.fu d+1)) (l++m)) (.slice (some ⟨b,0,none⟩) (l.length+m.length) cap):=by
       have hlen:(l++m).length=l.length+m.length:=qI
       have aB:F'.has b 0 (vs++B):=by
        intro q v V;rcases tv q vs.length with hq|hq
        ·rw[s_ hq] at V;exact ay.g.mF _ _ _ (f.has q v V)
        ·rw[xj hq] at V;have:=az _ v V;rw[I] at hq this;rw[show l.length*x+(q-l.length*x)=0+q by omega] at this;exact this
       have aa:∀y∈l++m,y.cells.length=x:=by
        intro y hy;rcases rS.1 hy with hy|hy
        ·exact C y hy
        ·exact M y hy
       have aL:=ic.slice (F:=F') (G:=ρ'.G) (n:=ρ'.n) (tag:=.jU) (l:=l++m) (b:=b) (o:=0) (base:=some ⟨b,0,none⟩) (cap:=cap) (sz:=x) (vs:=vs++B)
        (by
         rw[U',hG,aq];have aC:=ay.g;rw[hG,aq] at aC
         exact(f.cells.append r).grow aC) aB (λ_=>rfl) aa (by
         intro y hy;rw[U'] at hy;rcases rS.1 hy with hy|hy
         ·exact f.wm y hy
         ·exact s y hy) VW f.Gy (.inl rfl)
       rw[<-hlen];refine .cell (.loc aL (by rw[aw];exact ig _) ?_);unfold x_
       have e:ρ'.A d (fr.fu d+1)=some (b,cap,x):=by rw[ar k g rfl,hg];exact W
       rw[e];exact⟨rfl,rfl,aa⟩
      have ab:=aJ.put (d:=some d) (λ_ hh=>by cases hh;exact N) aA;refine⟨_,_,_,_,U,hK,ρ',F',R',?_,?_⟩
      ·have e1:({(grown fr d (.loc k g) l [])with yB:=ia (grown fr d (.loc k g) l []).yB d (some (l.length+m.length))}:Fr).put (some d) (.slice (.loc d (fr.fu d+1)) (l++m))=grown fr d (.loc k g) l m:=by
        simp only[grown,Fr.put,P6]
       have e2:(a.put (some d) (.slice (some ⟨b,0,none⟩) l.length cap)).put (some d) (.slice (some ⟨b,0,none⟩) (l.length+m.length) cap)=a.put (some d) (.slice (some ⟨b,0,none⟩) (l.length+m.length) cap):=by
        simp[Act.put]
       rw[e1,e2] at ab;exact ab
      ·rw[hG];exact(hx.setRow (.inl t1) _).freeze λb' j aM=>X b' j VW
   ·--a new row
    have aN:base=none->l.length=0/\cap=0:=by
     rintro rfl
     have ai:l=[]:=by
      rcases aa3 l with h'|⟨_,_,h'⟩
      ·exact h'
      ·have:=f.base (by rw[h'];simp);cases this
     subst ai;refine⟨rfl,?_⟩;rcases O with⟨_,hc⟩|⟨k,g,rfl,hg,ht,Y⟩
     ·simpa using hc
     ·unfold x_ at Y;cases W:ρ.A k g with
      |none=>rw[W] at Y;simpa using Y
      |some p=>
       obtain⟨b3,c3,x⟩:=p;rw[W] at Y;cases Y.1
    have aO:∀ad,base=some ad->∀(j:Nat) (v:Value),vs[j]?=some v->w.cell? (ad.add j)=some v:=by
     intro ad aP j v V
     have ai:l≠[]:=by
      rintro rfl;have:vs=[]:=Dq (by rw[I];simp);subst this;simp at V
     have:=f.base ai;rw[aP] at this;injection this with this;subst this;rw[Addr.add_lit];exact h.g.JO b _ v (f.has j v V)
    obtain⟨c',rest,r1,r2,r0,r3,U⟩:=src.grow S base l.length cap vs I aN aO VW ak;have aQ:=h.drew.alloc (.cells (vs++B++rest).toArray e);have aS:w.drew.heap.size=w.heap.size:=rfl
    obtain⟨ρ',R',hG,hw⟩:=aQ.V3 (b:=w.heap.size) (us:=vs++B) (c:=c') (sz:=sz) (tag:=tag) (l:=l) (m:=m) N h.tU (h.ny _ (ig _)) (λj=>h.g.fresh _ j (ig _))
     (heap_alloc_new w.drew _) (by
      intro u hu;simp only[rS] at hu;rcases hu with(hu|hu)|hu
      ·exact lr (f.cells.yS.mono λ_ _ _ h=>lH.p h) f.wm u hu
      ·exact lr (r.yS.mono λ_ _ _ h=>lH.p h) s u hu
      ·exact r0 u hu) (by simpa using r3) VW r1 r2 (by rw[qI,I,Q,A7]) (by
      intro j v V;have hj:=(qb.1 V).1;simp only[adi];rw[s_ hj]
      exact V) (by rw[U'];exact f.cells.append r) (by
      intro y hy;rw[U'] at hy;rcases rS.1 hy with hy|hy
      ·exact f.wm y hy
      ·exact s y hy) (by
      intro y hy;rcases rS.1 hy with hy|hy
      ·exact C y hy
      ·exact M y hy)
    refine⟨_,_,_,_,U,hK,ρ',_,R',hw,?_⟩;rw[hG];exact((hx.drew.alloc h.tU _).freeze λb' j aM=>yh (by have:=h.tU;omega))
 ·obtain⟨rfl,hK⟩:=hK;refine⟨_,_,_,_,src.none rfl _ _ _ f.Gc,hK,ρ,F,R,?_,hx⟩;exact h.put (λ_ hh=>by cases hh;exact N) (.p D)
def PM{t e:TypeId}{sz:Nat}(f:rp P t=some (e,sz))(ty:TypeId){base:Option Addr}{m cap b o:Nat}{news:List Value}(y:0<m->base=some ⟨b,o,none⟩)(A:news.length=m*sz)
  (hn:∀j v,news[j]?=some v->w.cell? ((⟨b,o,none⟩:Addr).add j)=some v) (C:∀u∈news,u.oneCell'=true):Ti P w t t e sz m (.slice base m cap) news ty where
 none D a len k E:=Lj w f ty a len k E _ ⟨base,cap,by rw[D]⟩
 room q g c d cur F hg h l:=by
  obtain⟨i,z,hu,hi,J,G,r,H,B⟩:=ql f;subst r;rw[y q];exact BT (P:=P) w t ty e F i hu hi g c d cur hg ⟨b,o,.none⟩ m cap news A hn C h l
 grow q a c d n holds s I x p:=by
  rw[y q];exact Kn w f ty a c d n holds s I ⟨b,o,.none⟩ m cap news A hn x p
def PZ{ρ:Maps}{F:nc}{R:Nat->si}(h:WR T n w0.heap.size ρ F R fr H a w)(Q:Ext w0.heap.size G0 F0 n0 w0 ρ.G F H.length w){c:Call}{dst:Option Nat}{ty:TypeId}{K:Fr->dd->Prop}
  (k:qG P T c dst K fr H) (S:∀d,dst=some d->d<n) (r:∀x∈c.args.toList,lG x=true):∃v w' fr' H',(Builtin.append_ c.argTypes ty (c.args.map a.eval)).run P w=.ok v w'/\K fr' H'/\SR T n G0 F0 n0 w0 fr' H' (a.put dst v) w':=by
 unfold qG at k
 split at k
 ·rename_i d s x t U i u;have C:=S d rfl;have V:c.argTypes=#[t,U]:=H3.1 (by rw[u]);have W:c.args.map a.eval=#[a.eval s,a.eval x]:=H3.1 (by rw[Rp,i];rfl);rw[V,W];have y:=hV h.env h.jQ s (r s (by rw[i];simp));have z:=hV h.env h.jQ x (r x (by rw[i];simp))
  split at k
  ·rename_i e sz tag l M m A hs D;obtain⟨rfl,E,I,B,k⟩:=k;rw[hs] at y;rw[D] at z;obtain⟨J,N,O,o2,X,Y,L,f,_,_⟩:=qM z;have q:=vq I f.sz;rw[L]
   exact KJ h Q A y E (PM A ty (b:=O) (o:=o2) (λZ=>f.base (T7.1 Z)) (by rw[<-f.cells.length,rX q]) (λj v hv=>by
    rw[Addr.add_lit]
    exact h.g.JO O _ v (f.has j v hv)) (lr (f.cells.yS.mono λ_ _ _ h=>lH.p h) f.wm)) f.cells f.wm q B C k
  ·exact k.elim
 ·exact k.elim
def s7(s:ByteArray):List AV:=s.data.toList.map λb=>AV.sc (.int .u8 (b.toNat:Int))
def IB(P:Program)(T:ec)(c:Call)(dst:Option Nat)(K:Fr->dd->Prop)(fr:Fr)(H:dd):Prop:=
 match dst,c.args.toList,c.argTypes.toList with
 |some d,[s,x],[t,a]=>
  match rp P t,P.underlying a,ev T fr s,ev T fr x with
  |some (_,sz),some .string,.slice tag l,.sc (.string y)=>
   sz=1/\mN 1 l=true/\l.length+y.size<=mw/\(if sX fr tag l then K (grown fr d tag l (s7 y)) H else s7 y=[]/\K (fr.put (some d) (.slice .jU l)) H)
  |_,_,_,_=>False
 |_,_,_=>False
def TK{t u e:TypeId}(j:rp P t=some (e,1))(d:P.underlying u=some .string)(ty:TypeId)(s:ByteArray):Ti P w t u e 1 s.size (.string s) (Lib.strCells s) ty where
 none q base len cap C:=by
  obtain⟨i,z,hu,hi,r,m,k,n,l⟩:=ql j;have v:=Lib.run_firstCells_string (P:=P) w i.size s;have hn:Lib.strCells s=[]:=Dq (by rw[Lib.strCells_length];exact q);rw[q,hn] at v;cases base with
  |none=>simp[Builtin.append_,run_underlying hu,run_underlying d,sizeOf,typeInfo,hi,Builtin.lenOf,q,C,v]|some K=>simp[Builtin.append_,run_underlying hu,run_underlying d,sizeOf,typeInfo,hi,Builtin.lenOf,q,C,v,storeCells]
 room E g a c cur F hg o x:=by
  obtain⟨i,z,hu,hi,r,m,k,n,l⟩:=ql j;have v:=Lib.run_firstCells_string (P:=P) w 1 s;have y:=run_storeCells_at P g (a*1) F (Lib.strCells s) 0 cur w hg (by simpa using x) (Lib.strCells_oneCell s);simp only[FW,X4] at y;simp[Builtin.append_,run_underlying hu,run_underlying d,sizeOf,typeInfo,hi,k,Builtin.lenOf,o,v,Addr.add_lit,y]
 grow E base a c f holds G H A B:=by
  obtain⟨i,z,hu,hi,r,m,k,n,l⟩:=ql j;have p:a+s.size<=1099511627776:=B
  have h:(a+s.size)*i.bytes<=140737488355328:=by
   have:=DC p n;omega
  have Gy:a+s.size<=maxLen:=by simp only[maxLen];omega
  refine⟨grownCap w (a+s.size) c e,(Builtin.zeroCells z.cells (grownCap w (a+s.size) c e-(a+s.size))).toList,grownCap_ge w (a+s.size) c e,grownCap_le_maxLen w (a+s.size) c e Gy,BI (RH j hi r) VW _,?_,?_⟩
  ·have:=grownCap_ge w (a+s.size) c e;simp only[qI,Ua,size_zeroCells,m,holds,Lib.strCells_length];omega
  ·have I:(f++Lib.strCells s++(Builtin.zeroCells z.cells (grownCap w (a+s.size) c e-(a+s.size))).toList).toArray=f.toArray++(Lib.strCells s).toArray++Builtin.zeroCells z.cells (grownCap w (a+s.size) c e-(a+s.size)):=by
    apply H3.1;simp
   rw[I];cases base with
   |some b=>exact Lib.run_append_grow_string w t u ty e i z hu d hi r b a c f (by rw[k];exact holds) (H b rfl) s A VW (growslice_fits A h)|none=>
    obtain⟨rfl,rfl⟩:=G rfl;have q:f=[]:=Dq (by simpa using holds);subst q;have D:=run_append_nil_string (P:=P) w t u ty e i z hu d hi r s VW VW (by rw[tG] at h;omega)
    have J:(s.data.map λb=>Value.int .u8 b.toNat)=(Lib.strCells s).toArray:=by
     apply Array.ext';simp[Lib.strCells]
    rw[J] at D;simpa using D
def Gg(s:ByteArray):(s7 s).flatMap AV.cells=(Lib.strCells s).map AV.sc:=by
 unfold s7 Lib.strCells
 induction s.data.toList with
 |nil=>rfl|cons b l a=>simp only[y5,Es,a];rfl
def Ap{F:nc}{G:Nat->Nat}{k:Nat}:∀(L:List Value),(∀v∈L,BD v=true)->iI F G k (L.map AV.sc) L
 |[],_=>.nil|v::L,h=>.cons (.sc (h v aaB)) (Ap L λx a=>h x (by simp[a]))
def Oz{ρ:Maps}{F:nc}{R:Nat->si}(h:WR T n w0.heap.size ρ F R fr H a w)(B:Ext w0.heap.size G0 F0 n0 w0 ρ.G F H.length w){c:Call}{dst:Option Nat}{ty:TypeId}{K:Fr->dd->Prop}
  (g:IB P T c dst K fr H) (C:∀d,dst=some d->d<n) (i:∀x∈c.args.toList,lG x=true):∃v w' fr' H',(Builtin.append_ c.argTypes ty (c.args.map a.eval)).run P w=.ok v w'/\K fr' H'/\SR T n G0 F0 n0 w0 fr' H' (a.put dst v) w':=by
 unfold IB at g
 split at g
 ·rename_i d s x t D f j;have u:=C d rfl;have E:c.argTypes=#[t,D]:=H3.1 (by rw[j]);have I:c.args.map a.eval=#[a.eval s,a.eval x]:=H3.1 (by rw[Rp,f];rfl);rw[E,I];have k:=hV h.env h.jQ s (i s (by rw[f];simp));have m:=hV h.env h.jQ x (i x (by rw[f];simp))
  split at g
  ·rename_i e sz tag l y o p hs z;obtain⟨rfl,A,q,g⟩:=g;rw[hs] at k;rw[z] at m;rw[gK m]
   have hlen:(s7 y).length=y.size:=by simp[s7]
   have J:iI F ρ.G ρ.n ((s7 y).flatMap AV.cells) (Lib.strCells y):=by
    rw[Gg];refine Ap _ λv L=>?_;obtain⟨b,_,rfl⟩:=nU.1 L;rfl
   have M:∀c∈(s7 y).flatMap AV.cells,c.gw=true:=λc r=>by
    rw[Gg] at r;obtain⟨v,_,rfl⟩:=nU.1 r;rfl
   have c3:∀c∈s7 y,c.cells.length=1:=λc r=>by
    obtain⟨b,_,rfl⟩:=nU.1 r;rfl
   exact KJ h B o k A (by rw[hlen];exact TK o p ty y) J M c3 (by rw[hlen];exact q) u g
  ·exact g.elim
 ·exact g.elim
end
end Go.ns
namespace Go.ns
open Go
def hE(P:Program)(t:TypeId):Option (List AV):=
 match zeroOf P t with
 |some z=>if Dz z=true/\e9 (ofValue z) then some (ofValue z).cells else none|none=>none
def O0{P:Program}{t:TypeId}{cs:List AV}(h:hE P t=some cs):∃z,zeroOf P t=some z/\Dz z=true/\e9 (ofValue z)=true/\cs=(ofValue z).cells:=by
 unfold hE at h
 split at h
 ·rename_i z b
  split at h
  ·rename_i a;injection h with h;exact⟨z,b,a.1,a.2,h.symm⟩
  ·cases h
 ·cases h
def CP(fr:Fr)(d:Nat)(cells:List AV)(len cap:Nat):Fr:=
 {fr with env:=ia fr.env d (.A3 d (fr.gen d+1) len cap),box:=ia fr.box d (some cells),gen:=ia fr.gen d (fr.gen d+1)}
def BZ(n:Nat):List AV:=List.replicate n .undef
def Ix(P:Program)(T:ec)(c:Call)(dst:Option Nat)(K:Fr->dd->Prop)(fr:Fr)(H:dd):Prop:=
 match dst,c.args.toList,c.argTypes.toList with
 |some d,[s,x],[t,f]=>
  match rp P t,ev T fr x with
  |some (e,sz),.slice _ m=>
   f=t/\mN sz m=true/\(hE P e).isSome=true/\0<m.length/\match ev T fr s with
   |.slice .full l=>mN sz l=true/\l.length+m.length<=mw/\∀cap,l.length+m.length<=cap->K (CP fr d (l.flatMap AV.cells++m.flatMap AV.cells++BZ ((cap-(l.length+m.length))*sz)) (l.length+m.length) cap) H|.A3 b g len cap=>g=fr.gen b/\len+m.length<=mw/\match fr.box b with
    |some cs=>cs.length=cap*sz/\(len+m.length<=cap->K {fr with env:=ia fr.env d (.A3 b g (len+m.length) cap),box:=ia fr.box b (some (setCells cs (len*sz) (m.flatMap AV.cells)))} H)/\(∀a,cap<len+m.length->len+m.length<=a->K (CP fr d (cs.take (len*sz)++m.flatMap AV.cells++BZ ((a-(len+m.length))*sz)) (len+m.length) a) H)|none=>False
   |_=>False
  |_,_=>False
 |_,_,_=>False
section
variable{P:Program} {T:ec} {n:Nat} {G0:Nat->Nat} {F0:nc} {n0:Nat} {w0:World} {fr:Fr} {H:dd} {a:Act} {w:World}
def R4{e:TypeId}(h:(hE P e).isSome=true){i:TypeInfo}{z:Value}(hi:P.info? e=some i)(c:i.zero=some z):∀u∈z.cells.toList,u.oneCell'=true:=by
 cases b:hE P e with
 |none=>rw[b] at h;cases h
 |some cs=>
  obtain⟨d,a,f,g,_⟩:=O0 b
  have:d=z:=by
   unfold zeroOf at a;rw[hi] at a;simp only[aaA,c] at a;exact(gB a).symm
  subst this;exact(Gs f (λvs j=>by subst j;simp[ofValue,e9] at g)).2
def rF(w:World){t e:TypeId}{sz:Nat}(o:rp P t=some (e,sz))(p:(hE P e).isSome=true)(ty:TypeId)(base:Option Addr)(a d:Nat)(f:List Value)(holds:f.length=a*sz)
  (C:base=none->a=0/\d=0) (D:∀k,base=some k->∀j v,f[j]?=some v->w.cell? (k.add j)=some v)
  (k:Addr) (m c:Nat) (news:List Value) (A:news.length=m*sz) (hn:∀j v,news[j]?=some v->w.cell? (k.add j)=some v) (l:d<a+m) (n:a+m<=mw):∃cap rest,a+m<=cap/\cap<=maxLen/\rest.length=(cap-(a+m))*sz/\(∀u∈rest,u.oneCell'=true)/\(Builtin.append_ #[t,t] ty #[.slice base a d,.slice (some k) m c]).run P w=.ok (.slice (some ⟨w.heap.size,0,none⟩) (a+m) cap) (w.drew.alloc (.cells (f++news++rest).toArray e)):=by
 obtain⟨i,z,hu,hi,q,r,s,x,B⟩:=ql o;subst s;have h:a+m<=1099511627776:=n
 have g:(a+m)*i.bytes<=140737488355328:=by
  have:=DC h x;omega
 have Gy:a+m<=maxLen:=by simp only[maxLen];omega
 have y:=grownCap_ge w (a+m) d e;have hle:=grownCap_le_maxLen w (a+m) d e Gy;refine⟨grownCap w (a+m) d e,(Builtin.zeroCells z.cells (grownCap w (a+m) d e-(a+m))).toList,y,hle,?_,BI (R4 p hi q) VW _,?_⟩
 ·simp only[Ua,size_zeroCells,r]
 ·have E:(f++news++(Builtin.zeroCells z.cells (grownCap w (a+m) d e-(a+m))).toList).toArray=f.toArray++news.toArray++Builtin.zeroCells z.cells (grownCap w (a+m) d e-(a+m)):=by
   apply H3.1;simp
  rw[E];cases base with
  |some b=>
   exact run_append_grow w t ty e i z hu hi q b a d f holds (D b rfl) k m c news A hn l VW (growslice_fits l g)
  |none=>
   obtain⟨rfl,rfl⟩:=C rfl;have:f=[]:=Dq (by simpa using holds);subst this;simp only[tG] at l g h|-;have:=run_append_nil (P:=P) w t ty e i z hu hi q k m c news A hn VW VW VW;simpa using this
def MF{F:nc}{ρ:Maps}:∀{rest:List Value} {k:Nat},rest.length=k->(∀u∈rest,u.oneCell'=true)->iU (lH F ρ) (BZ k) rest
 |[],k,h,_=>by cases h;exact .nil
 |u::rest,k,h,a=>by
  cases h;show iU _ (List.replicate (rest.length+1) AV.undef) _;rw[Xx];exact .cons (.p (.undef (a u aaB))) (MF rfl λv b=>a v (by simp[b]))
def Cj(k:Nat):∀c∈BZ k,c.gw=true:=by
 intro c a;rw[List.eq_of_mem_replicate a];rfl
def WR.XB{ρ:Maps}{F:nc}{R:Nat->si}(h:WR T n w0.heap.size ρ F R fr H a w)(p:Ext w0.heap.size G0 F0 n0 w0 ρ.G F H.length w){d len cap:Nat}(k:d<n){cells:List AV}{vs:Array Value}(ty:TypeId)
  (l:iU (lH F ρ) cells vs.toList) (f:∀c∈cells,c.gw=true) (hlen:len<=cap) (Gc:cap<=maxLen):SR T n G0 F0 n0 w0 (CP fr d cells len cap) H (a.put (some d) (.slice (some ⟨w.heap.size,0,none⟩) len cap)) (w.drew.alloc (.cells vs ty)):=by
 have q:=h.drew.alloc (.cells vs ty);have i:(w.drew.alloc (.cells vs ty)).heap[w.drew.heap.size]?=some (.cells vs ty (0,0)):=heap_alloc_new w.drew _;have r:w.drew.heap.size=w.heap.size:=rfl;have e:R w.drew.heap.size=.free:=h.ny _ (ig _);have hF:∀j,F w.drew.heap.size j=none:=λj=>h.g.fresh _ j (ig _);obtain⟨ρ',s,hG,hw⟩:=q.ZG h.tU e hF i l f k;have t:=hw.box d cells (by simp[ia])
 have u:ρ'.L d (fr.gen d+1)=w.heap.size:=by
  have he:=hw.env d
  have m:({fr with env:=ia fr.env d (.jo d (fr.gen d+1) 0),box:=ia fr.box d (some cells),gen:=ia fr.gen d (fr.gen d+1)}:Fr).env d=.jo d (fr.gen d+1) 0:=by simp[ia]
  rw[m,RP a (some d) _ d (by intro y he;injection he with he;subst he;rw[h.size];exact k),cK rfl] at he;have:=(zL he).1;injection this with this;injection this with this;injection this with this;exact this.symm
 have o:fr.gen d+1<=ρ'.lg d:=by
  rw[hw.lg d];simp[ia]
 have ki:=hw.put (d:=some d) (by intro y he;injection he with he;subst he;exact k) (x:=.A3 d (fr.gen d+1) len cap) (v:=.slice (some ⟨w.heap.size,0,none⟩) len cap) (by
  have:=lH.A3 (F:=F) (ρ:=ρ') (b:=d) (g:=fr.gen d+1) o hlen Gc;rw[u] at this
  exact .cell this)
 refine⟨ρ',F,s,?_,?_⟩
 ·have m:(({fr with env:=ia fr.env d (.jo d (fr.gen d+1) 0),box:=ia fr.box d (some cells),gen:=ia fr.gen d (fr.gen d+1)}:Fr).put (some d) (.A3 d (fr.gen d+1) len cap))=CP fr d cells len cap:=by
   simp only[CP,Fr.put,P6]
  have z:(a.put (some d) (.pointer (some ⟨w.heap.size,0,none⟩))).put (some d) (.slice (some ⟨w.heap.size,0,none⟩) len cap)=a.put (some d) (.slice (some ⟨w.heap.size,0,none⟩) len cap):=by
   simp[Act.put]
  rw[m,z] at ki;exact ki
 ·rw[hG];exact(p.drew).alloc h.tU _
def OD{ρ:Maps}{F:nc}{R:Nat->si}(h:WR T n w0.heap.size ρ F R fr H a w)(hx:Ext w0.heap.size G0 F0 n0 w0 ρ.G F H.length w){c:Call}{dst:Option Nat}{ty:TypeId}{K:Fr->dd->Prop}
  (y:Ix P T c dst K fr H) (hd:∀d,dst=some d->d<n) (an:∀x∈c.args.toList,lG x=true):∃v w' fr' H',(Builtin.append_ c.argTypes ty (c.args.map a.eval)).run P w=.ok v w'/\K fr' H'/\SR T n G0 F0 n0 w0 fr' H' (a.put dst v) w':=by
 unfold Ix at y
 split at y
 ·rename_i d s x t t' A ao;have V:=hd d rfl;have e1:c.argTypes=#[t,t']:=H3.1 (by rw[ao]);have e2:c.args.map a.eval=#[a.eval s,a.eval x]:=H3.1 (by rw[Rp,A];rfl);rw[e1,e2];have Q:=hV h.env h.jQ s (an s (by rw[A];simp));have aq:=hV h.env h.jQ x (an x (by rw[A];simp))
  split at y
  ·rename_i e sz aQ m W aC;obtain⟨rfl,aD,ar,X,y⟩:=y;rw[aC] at aq;obtain⟨aE,D,b2,o2,aU,k,aF,f,_,_⟩:=qM aq;have hm:m≠[]:=T7.1 X;have aw:=vq aD f.sz;have S:=f.base hm
   have B:∀j v,k[j]?=some v->w.cell? ((⟨b2,o2,none⟩:Addr).add j)=some v:=by
    intro j v O;rw[Addr.add_lit];exact h.g.JO b2 _ v (f.has j v O)
   have E:k.length=m.length*sz:=by rw[<-f.cells.length,rX aw]
   have I:iU (lH F ρ) (m.flatMap AV.cells) k:=f.cells.yS.mono λ_ _ _ h=>.p h;have Y:∀u∈k,u.oneCell'=true:=lr I f.wm;obtain⟨i,z,hu,hi,hz,aV,Z,aW,aR⟩:=ql W;rw[aF,S]
   split at y
   ·--a new row
    rename_i l hs;obtain⟨aG,J,y⟩:=y;rw[hs] at Q;obtain⟨base,cap,b,o,aX,vs,aa,C,ab,_⟩:=qM Q;rw[aa];have Gc:cap=l.length:=ab rfl;have ax:=vq aG C.sz
    have U:vs.length=l.length*sz:=by rw[<-C.cells.length,rX ax]
    have aH:base=none->l.length=0/\cap=0:=by
     rintro rfl
     have aI:l=[]:=by
      rcases aa3 l with h'|⟨_,_,h'⟩
      ·exact h'
      ·have:=C.base (by rw[h'];simp);cases this
     subst aI;exact⟨rfl,Gc⟩
    have ho:∀ad,base=some ad->∀j v,vs[j]?=some v->w.cell? (ad.add j)=some v:=by
     intro ad ae j v O
     have ay:l≠[]:=by
      rintro rfl;have:vs=[]:=Dq (by simpa using U);rw[this] at O;simp at O
     have:=C.base ay;rw[ae] at this;obtain rfl:=gB this;rw[Addr.add_lit];exact h.g.JO b _ v (C.has j v O)
    obtain⟨M,rest,N,af,ah,ai,q⟩:=rF w W ar ty base l.length cap vs U aH ho ⟨b2,o2,none⟩ m.length D k E B VW J;refine⟨_,_,_,_,q,y M N,h.XB hx V e ?_ ?_ N af⟩
    ·simp only;exact((C.cells.yS.mono λ_ _ _ h=>lH.p h).append I).append (MF ah ai)
    ·intro c hc;simp only[rS] at hc;rcases hc with(hc|hc)|hc
     ·exact C.wm c hc
     ·exact f.wm c hc
     ·exact Cj _ c hc
   ·--a row of aY az own
    rename_i b g len cap hs;obtain⟨hg,J,y⟩:=y;rw[hs] at Q;obtain⟨aa,aJ,aK,aL⟩:=E8 Q;rw[aa]
    split at y
    ·rename_i cs hb;obtain⟨aM,aN,aO⟩:=y;obtain⟨b1,aP,b3,cur,cty,b4,b5⟩:=h.box b cs hb;rw[<-hg] at b1 aP b4
     have aS:cur.size=cap*sz:=by rw[<-aM];simpa using b5.length.symm
     have hle:len*sz<=cap*sz:=Lt _ aK
     by_cases r:len+m.length<=cap
     ·have aT:len*sz+m.length*sz<=cap*sz:=by rw[<-A7];exact Lt _ r
      have q:=BT (P:=P) w t' ty e cty i hu hi (ρ.L b g) len cap cur b4 ⟨b2,o2,none⟩ m.length D k (by rw[Z];exact E) B Y r (by rw[Z];omega);rw[Z] at q;have fH:=b5.setCells I (len*sz);have aA:(m.flatMap AV.cells).length=k.length:=I.length
      have ak:∀c∈setCells cs (len*sz) (m.flatMap AV.cells),c.gw=true:=by
       intro c hc;simp only[setCells,rS] at hc;rcases hc with(hm|hm)|hm
       ·exact b3 c (Hi hm)
       ·exact f.wm c hm
       ·exact b3 c (Nl hm)
      have aB:=h.V5 hb (vs':=(cur.toList.take (len*sz)++k++cur.toList.drop (len*sz+k.length)).toArray) (by rw[<-aA];simpa[aA] using fH) ak;rw[<-hg] at aB;have ki:=aB.put (d:=some d) (by intro d' he;injection he with he;subst he;exact V) (x:=.A3 b g (len+m.length) cap) (v:=.slice (some ⟨ρ.L b g,0,none⟩) (len+m.length) cap) (.cell (.A3 aJ r aL));refine⟨_,_,_,_,q,aN r,ρ,F,R,ki,hx.setRow (.inl b1) _⟩
     ·have ho:∀ad,some (⟨ρ.L b g,0,none⟩:Addr)=some ad->∀j v,(cur.toList.take (len*sz))[j]?=some v->w.cell? (ad.add j)=some v:=by
       intro ad ae j v O;obtain rfl:=gB ae;rw[Addr.add_lit,tG,cell_of_row w _ _ cur cty (0,0) b4];rw[Me] at O
       split at O
       ·simpa using O
       ·cases O
      obtain⟨M,rest,N,af,ah,ai,q⟩:=rF w W ar ty (some ⟨ρ.L b g,0,none⟩) len cap (cur.toList.take (len*sz)) aaP (by intro h;cases h) ho ⟨b2,o2,none⟩ m.length D k E B VW J;refine⟨_,_,_,_,q,aO M VW N,h.XB hx V e ?_ ?_ N af⟩
      ·simp only;exact((b5.take _).append I).append (MF ah ai)
      ·intro c hc;simp only[rS] at hc;rcases hc with(hc|hc)|hc
       ·exact b3 c (Hi hc)
       ·exact f.wm c hc
       ·exact Cj _ c hc
    ·exact y.elim
   ·exact y.elim
  ·exact y.elim
 ·exact y.elim
end
end Go.ns
namespace Go.ns
open Go Go.MapKept
def Ms:TypeDesc->Value->Bool
 |.bool,.bool _=>true|.int k,.int k' _=>k'==k|.string,.string _=>true|_,_=>false
def V0:Value->Value->Bool
 |.bool a,.bool b=>a==b|.int _ a,.int _ b=>a==b|.string a,.string b=>a==b|_,_=>false
def Aq{d:TypeDesc}{v:Value}(h:Ms d v=true):IsKey d v:=by
 unfold Ms at h
 split at h<;>simp_all [IsKey]
def Kl{d:TypeDesc}{a b:Value}(c:IsKey d a)(e:IsKey d b):V0 a b=true↔a=b:=by
 cases d<;>cases a<;>cases b<;>simp_all [IsKey,V0,bytes_beq]
def mapIdx(ks:List Value)(k:Value):Option Nat:=ks.findIdx? (λx=>V0 x k)
def Fu{d:TypeDesc}{k:Value}(f:IsKey d k):∀{ks:List Value} {j:Nat},(∀x∈ks,IsKey d x)->ks.Nodup->ks[j]?=some k->mapIdx ks k=some j
 |[],j,_,_,h=>by simp at h
 |x::ks,j,a,hn,h=>by
  have b:=a x aaB;unfold mapIdx;rw[aal];cases j with
  |zero=>
   simp at h;subst h;rw[cK ((Kl b b).2 rfl)]
  |succ j=>
   simp at h
   have c:x≠k:=by
    rintro rfl;exact(St.1 hn).1 (D8 h)
   rw[cI (λe=>c ((Kl b f).1 e))];have:=Fu f (λy hy=>a y (by simp[hy])) (St.1 hn).2 h;unfold mapIdx at this;rw[this];rfl
def Ev{d:TypeDesc}{k:Value}(b:IsKey d k):∀{ks:List Value},(∀x∈ks,IsKey d x)->(∀x∈ks,x≠k)->mapIdx ks k=none
 |[],_,_=>rfl|x::ks,a,h=>by
  unfold mapIdx;rw[aal,cI (λe=>h x aaB ((Kl (a x aaB) b).1 e))];have:=Ev b (ks:=ks) (λy hy=>a y (by simp[hy])) (λy hy=>h y (by simp[hy]));unfold mapIdx at this;rw[this];rfl
def Rx(P:Program)(t:TypeId):Option AV:=
 match zeroOf P t with
 |some z=>if Dz z=true/\e9 (ofValue z) then some (ofValue z).norm else none|none=>none
def zo(P:Program)(H:dd)(t:TypeId)(x i:AV)(ok:Bool):Option AV:=
 match P.underlying t,x,i with
 |some (.map kt e),.qZ o,.sc k=>
  match P.underlying kt,H[o]?,Rx P e with
  |some d,some [.yM ks xs],some z=>
   if Ms d k=true/\ks.all (Ms d) then
    match mapIdx ks k with
    |some j=>(xs[j]?).map λv=>if ok then .tuple [v,.sc (.bool true)] else v|none=>some (if ok then .tuple [z,.sc (.bool false)] else z)
   else none
  |_,_,_=>none
 |_,_,_=>none
def Jy(ks:List Value)(xs:List AV)(k:Value)(v:AV):AV:=
 match mapIdx ks k with
 |some j=>.yM ks (xs.set j v)|none=>.yM (ks++[k]) (xs++[v])
def wE(P:Program)(t:TypeId)(x i v:AV)(K:Fr->dd->Prop)(fr:Fr)(H:dd):Prop:=
 match P.underlying t,x,i with
 |some (.map kt _),.qZ o,.sc k=>
  match P.underlying kt,H[o]?with
  |some d,some [.yM ks xs]=>Ms d k=true/\ks.all (Ms d)=true/\K fr (H.set o [Jy ks xs k v.norm])|_,_=>False
 |_,_,_=>False
def NM(dst:Option Nat)(K:Fr->dd->Prop)(fr:Fr)(H:dd):Prop:=K (fr.put dst (.qZ H.length)) (H++[[.yM [] []]])
def MI(P:Program)(t:TypeId)(x:AV)(dst:Option Nat)(K:Fr->dd->Prop)(fr:Fr)(H:dd):Prop:=
 match P.underlying t,x with
 |some (.map _ _),.qZ o=>
  match H[o]?with
  |some [.yM ks _]=>K (fr.put dst (.eS H.length 0)) (H++[[.p_ o ks.length []]])|_=>False
 |_,_=>False
def OR(x:AV)(dst:Option Nat)(K:Fr->dd->Prop)(fr:Fr)(H:dd):Prop:=
 match x with
 |.eS i 0=>
  match H[i]?with
  |some [.p_ o since seen]=>
   match H[o]?with
   |some [.yM ks xs]=>ks.length=since/\ks.all BD=true/\((∀j,j<ks.length->j∈seen)->K (fr.put dst (.tuple [.sc (.bool false)])) H)/\∀j k v,ks[j]?=some k->xs[j]?=some v->j∉seen->K (fr.put dst (.tuple [.sc (.bool true),.sc k,v])) (H.set i [.p_ o since (seen++[j])])|_=>False
  |_=>False
 |_=>False
def JC(x:AV)(H:dd):Option AV:=
 match x with
 |.eS i 0=>
  match H[i]?with
  |some [.p_ o since seen]=>
   match H[o]?,seen.getLast? with
   |some [.yM ks xs],some j=>
    match ks[j]?,xs[j]?with
    |some k,some v=>if ks.length=since/\BD k then some (.tuple [.sc k,v])else none|_,_=>none
   |_,_=>none
  |_=>none
 |_=>none
def oK.Is{F:nc}{G:Nat->Nat}{n:Nat}{ks xs b}(h:oK F G n [.yM ks xs] b):∃es clock,b=.map es clock/\es.toList.map (·.key)=ks/\iU (ic F G n) xs (es.toList.map (·.val))/\es.toList.map (·.born)=List.range ks.length/\clock=ks.length/\ks.Nodup:=by
 cases h with
 |cells g c a=>have:=a (.yM ks xs) aaB;simp[AV.gw] at this
 |map c a d e f=>exact⟨_,_,rfl,c,a,d,e,f⟩
def oK.Rc{F:nc}{G:Nat->Nat}{n:Nat}{o since seen a}(h:oK F G n [.p_ o since seen] a):a=.mapIter (some (G o)) since seen.toArray since/\o<n:=by
 cases h with
 |cells c d b=>have:=b (.p_ o since seen) aaB;simp[AV.gw] at this
 |iter h=>exact⟨rfl,h⟩
section
variable{P:Program} {T:ec} {n B0:Nat} {ρ:Maps} {F:nc} {R:Nat->si} {fr:Fr} {H:dd} {a:Act} {w:World}
def Jr{o:Nat}{v:Value}(h:h_ F ρ (.qZ o) v):v=.map (some (ρ.G o))/\o<ρ.n:=by
 cases h with
 |cell h=>cases h with
  |p h=>cases h with|qZ h=>exact⟨rfl,h⟩
def Xw(w:World){t:TypeId}{z:AV}(h:Rx P t=some z):∃v,(zeroValue t).run P w=.ok v w/\ic F ρ.G ρ.n z v:=by
 unfold Rx at h
 split at h
 ·rename_i z0 a
  split at h
  ·rename_i b;injection h with h;subst h;refine⟨z0,?_,(h_.p (Dw _ _ _ _ b.1)).norm⟩;unfold zeroOf at a;cases hi:P.info? t with
   |none=>rw[hi] at a;cases a
   |some i=>
    rw[hi] at a;simp at a;simp[zeroValue,typeInfo,hi,a]
  ·cases h
 ·cases h
def Ur{d:TypeDesc}{ks:List Value}{es:Array MapEntry}(h:es.toList.map (·.key)=ks)(a:ks.all (Ms d)=true):∀x∈es.toList,IsKey d x.key:=by
 intro x b;refine Aq (iC.1 a _ ?_);rw[<-h];exact nU.2 ⟨x,b,rfl⟩
def LK{ks:List Value}{es:Array MapEntry}{j:Nat}{e:MapEntry}(h:es.toList.map (·.key)=ks)(a:es.toList[j]?=some e):ks[j]?=some e.key:=by
 rw[<-h,xr,a];rfl
def RC(h:WR T n B0 ρ F R fr H a w){t:TypeId}{x i r:AV}{ok:Bool}{M N:Value}(c:zo P H t x i ok=some r)(E:h_ F ρ x M)(hi:h_ F ρ i N):∃v,(Instr.lookup t M N ok).run P w=.ok v w/\h_ F ρ r v:=by
 unfold zo at c
 split at c
 ·rename_i kt e o k hu
  split at c
  ·rename_i d ks xs z C S U
   split at c
   ·rename_i G;obtain⟨rfl,_⟩:=Jr E;obtain rfl:=gK hi;obtain⟨Y,O,V⟩:=h.g.oB o _ S;obtain⟨es,clock,rfl,I,Q,Z,e4,W⟩:=V.Is;rw[<-h.hn] at Q;have b:=Aq G.1;have m:=Ur I G.2;have q:∀y∈ks,IsKey d y:=λy hy=>Aq (iC.1 G.2 _ hy);obtain⟨J,K,s⟩:=Xw (F:=F) (ρ:=ρ) w U;rcases findNow_spec b es.toList 0 m with⟨f,l⟩|⟨j,D,f,l,L⟩
    ·rw[Ev b q (by
      intro y hy;rw[<-I] at hy;obtain⟨x,E,rfl⟩:=nU.1 hy
      exact l x E)] at c
     simp only[wh] at c;subst c;refine⟨if ok then .tuple #[J,.bool false] else J,?_,?_⟩
     ·cases ok<;>simp[Instr.lookup,run_underlying hu,MapKept.run_getObj_map O,run_checkKey C b,run_findKey C f,K,Result.andThen]
     ·cases ok
      ·exact .p s
      ·exact .p (.tuple (vs:=[J,.bool false]) (.cons s (.cons (.sc rfl) .nil)))
    ·have u:=LK I l;rw[L] at u;rw[Fu b q W u] at c;simp only[YQ] at c;obtain⟨y,hy,rfl⟩:=c;obtain⟨X,A,B⟩:=Q.get hy
     have:X=D.val:=by
      rw[xr,l] at A;simpa using A.symm
     subst this;simp only[tG] at f;refine⟨if ok then .tuple #[D.val,.bool true] else D.val,?_,?_⟩
     ·cases ok<;>simp[Instr.lookup,run_underlying hu,MapKept.run_getObj_map O,run_checkKey C b,run_findKey C f,Result.andThen]
     ·cases ok
      ·exact .p B
      ·exact .p (.tuple (vs:=[D.val,.bool true]) (.cons B (.cons (.sc rfl) .nil)))
   ·cases c
  ·cases c
 ·cases c
def iU.afJ{α β:Type}{R:α->β->Prop}{as:List α}{bs:List β}(h:iU R as bs){a:α}{b:β}(c:R a b)(j:Nat):iU R (as.set j a) (bs.set j b):=by
 induction h generalizing j with
 |nil=>simp;exact .nil|cons d e f=>cases j with
  |zero=>exact .cons c e|succ j=>exact .cons d (f j)
def HM(f:MapEntry->MapEntry){α:Type}(g:MapEntry->α)(es:Array MapEntry)(j:Nat){e:MapEntry}(d:es.toList[j]?=some e):(es.modify j f).toList.map g=(es.toList.map g).set j (g (f e)):=by
 apply Wi;intro i;simp only[xr,aaD,Array.getElem?_modify,Yz,Eb,Ua]
 by_cases a:j=i
 ·subst a
  have b:es[j]?=some e:=by simpa using d
  obtain⟨c,he⟩:=QW.1 b;simp[b,c,he]
 ·simp[a]
def R2{α:Type}{l:List α}{j:Nat}{x:α}(h:l[j]?=some x):l.set j x=l:=by
 apply Wi;intro i;rw[Yz]
 by_cases a:j=i
 ·subst a;obtain⟨b,c⟩:=qb.1 h;simp[b,c]
 ·simp[a]
def Ik{G0:Nat->Nat}{F0:nc}{n0:Nat}{w0:World}(h:WR T n w0.heap.size ρ F R fr H a w)(A:Ext w0.heap.size G0 F0 n0 w0 ρ.G F H.length w){t:TypeId}{x i v:AV}{Y u z:Value}{K:Fr->dd->Prop}
  (k:wE P t x i v K fr H) (M:h_ F ρ x Y) (N:h_ F ρ i u) (B:h_ F ρ v z):∃fr' H' w',(Instr.mapUpdate t Y u z).run P w=.ok () w'/\K fr' H'/\SR T n G0 F0 n0 w0 fr' H' a w':=by
 unfold wE at k
 split at k
 ·rename_i kt e o kk hu
  split at k
  ·rename_i d ks xs L O;obtain⟨Q,C,k⟩:=k;obtain⟨rfl,_⟩:=Jr M;obtain rfl:=gK N;obtain⟨ob,D,h2⟩:=h.g.oB o _ O;obtain⟨es,clock,rfl,p,S,Z,U,V⟩:=h2.Is;have c:=Aq Q;have q:=Ur p C;have E:∀y∈ks,IsKey d y:=λy hy=>Aq (iC.1 C _ hy)
   have hlen:es.toList.length=ks.length:=by rw[<-p];simp
   rw[<-h.hn] at S
   have fin:∀(l:Obj) (r:List AV),oK F ρ.G ρ.n r l->K fr (H.set o r)->(Instr.mapUpdate t (.map (some (ρ.G o))) u z).run P w=.ok () {w with heap:=w.heap.setIfInBounds (ρ.G o) l}->∃fr' H' w',(Instr.mapUpdate t (.map (some (ρ.G o))) u z).run P w=.ok () w'/\K fr' H'/\SR T n G0 F0 n0 w0 fr' H' a w':=by
    intro l r W k I;obtain⟨s1,s2⟩:=heap_set (o':=l) D;refine⟨_,_,_,I,k,ρ,F,R,h.Nw O aaB aaB s1 s2 W,?_⟩;rw[T9];refine A.Q7 rfl rfl rfl aaB λb X hn=>s2 b ?_;rintro rfl;exact hn o (qb.1 O).1 rfl
   rcases findNow_spec c es.toList 0 q with⟨m,f⟩|⟨j,e0,m,f,J⟩
   ·rw[Jy,Ev c E (by
     intro y hy;rw[<-p] at hy;obtain⟨x,A,rfl⟩:=nU.1 hy
     exact f x A)] at k
    refine fin (.map (es.push {key:=u,val:=z,born:=clock}) (clock+1)) _ (.map ?_ ?_ ?_ ?_ ?_) k ?_
    ·simp[p]
    ·simpa using S.append (.cons B.norm .nil)
    ·simp[Z,U,List.range_succ]
    ·simp[U]
    ·rw[List.nodup_append];refine⟨V,aaB,?_⟩;intro a ha b X;simp only[uR] at X;subst X;rw[<-p] at ha;obtain⟨x,A,rfl⟩:=nU.1 ha;exact f x A
    ·simp[Instr.mapUpdate,run_underlying hu,MapKept.run_getObj_map D,run_checkKey L c,run_findKey L m,run_setObj_map _ D,Result.andThen]
   ·have s:=LK p f;rw[J] at s;rw[Jy,Fu c E V s] at k
    have hj:es[j]?=some e0:=by simpa using f
    simp only[tG] at m;refine fin (.map (es.modify j λe=>{e with key:=u,val:=z}) clock) _ (.map ?_ ?_ ?_ U V) k ?_
    ·rw[HM _ _ _ _ f,p,R2 s]
    ·rw[HM _ _ _ _ f];exact S.afJ B.norm j
    ·rw[HM _ _ _ _ f,R2 (by rw[xr,f];rfl),Z]
    ·simp[Instr.mapUpdate,run_underlying hu,MapKept.run_getObj_map D,run_checkKey L c,run_findKey L m,hj,J,run_keyThatStays c,run_setObj_map _ D,Result.andThen]
  ·exact k.elim
 ·exact k.elim
def wU{G0:Nat->Nat}{F0:nc}{n0:Nat}{w0:World}(h:WR T n w0.heap.size ρ F R fr H a w)(i:Ext w0.heap.size G0 F0 n0 w0 ρ.G F H.length w){c:Obj}{cs:List AV}(e:oK F ρ.G ρ.n cs c)
  {dst:Option Nat} (k:∀d,dst=some d->d<n) {x:AV} {v:Value} (l:∀ρ':Maps,(∀o,o<H.length->ρ'.G o=ρ.G o)->ρ'.G H.length=w.heap.size->ρ'.n=H.length+1->ic F ρ'.G ρ'.n x v):SR T n G0 F0 n0 w0 (fr.put dst x) (H++[cs]) (a.put dst v) (w.alloc c):=by
 obtain⟨ρ',m,hG,b,f,hw⟩:=(h.alloc c).Qk (h.ny _ (ig _)) (λj=>h.g.fresh _ j (ig _)) (heap_alloc_new w _) e;refine⟨ρ',F,m,hw.put k (.p (l ρ' hG b f)),?_⟩;rw[qI];exact(i.alloc h.tU _).aat hG (by rw[b];exact h.tU)
def IY{G0:Nat->Nat}{F0:nc}{n0:Nat}{w0:World}(h:WR T n w0.heap.size ρ F R fr H a w)(p:Ext w0.heap.size G0 F0 n0 w0 ρ.G F H.length w){t k:Nat}{parts:List (Nat×AV)}{pv:List (Nat×Value)}{tag:Tag}{l:List AV}
  {dst:Option Nat} (q:qx P t k parts=some (.slice tag l)) (c:iU (λ(x:Nat×AV) (y:Nat×Value)=>x.1=y.1/\h_ F ρ x.2 y.2) parts pv) (r:∀d,dst=some d->d<n):∃v w',(Instr.buildSlice t k pv.toArray).run P w=.ok v w'/\SR T n G0 F0 n0 w0 (fr.put dst (.xx H.length 0 l.length l.length)) (H++[l.flatMap AV.cells]) (a.put dst v) w':=by
 obtain⟨u,us,e,sz,he,i,Gy,s,b,f,g⟩:=Fy w q c;injection he with _ he;subst he;refine⟨_,_,g,wU h p (.cells (.inl rfl) (by simpa using b) f) r ?_⟩;intro ρ' hG j m;have:=ic.xx (F:=F) (G:=ρ'.G) (n:=ρ'.n) (o:=H.length) (off:=0) (len:=l.length) (cap:=l.length) (by rw[m];omega) (ig _) (by rw[i];exact Gy);rw[j,i] at this;rw[i];exact this
def Ou{G0:Nat->Nat}{F0:nc}{n0:Nat}{w0:World}(h:WR T n w0.heap.size ρ F R fr H a w)(e:Ext w0.heap.size G0 F0 n0 w0 ρ.G F H.length w){t:TypeId}{dst:Option Nat}(f:∀d,dst=some d->d<n):∃v w',(Instr.makeMap t none).run P w=.ok v w'/\SR T n G0 F0 n0 w0 (fr.put dst (.qZ H.length)) (H++[[.yM [] []]]) (a.put dst v) w':=by
 refine⟨.map (some w.heap.size),w.alloc (.map #[] 0),by simp[Instr.makeMap,Result.andThen],wU h e (.map aaB (by simp;exact .nil) aaB rfl aaB) f ?_⟩;intro ρ' hG b c;have:=ic.qZ (F:=F) (G:=ρ'.G) (n:=ρ'.n) (o:=H.length) (by rw[c];omega);rw[b] at this;exact this
def RI{G0:Nat->Nat}{F0:nc}{n0:Nat}{w0:World}(h:WR T n w0.heap.size ρ F R fr H a w)(l:Ext w0.heap.size G0 F0 n0 w0 ρ.G F H.length w){t:TypeId}{x:AV}{k:Value}{dst:Option Nat}{K:Fr->dd->Prop}
  (b:MI P t x dst K fr H) (m:∀d,dst=some d->d<n) (c:h_ F ρ x k):∃v w' fr' H',(Instr.range t k).run P w=.ok v w'/\K fr' H'/\SR T n G0 F0 n0 w0 fr' H' (a.put dst v) w':=by
 unfold MI at b
 split at b
 ·rename_i kt e o hu
  split at b
  ·rename_i ks xs p;obtain⟨rfl,f⟩:=Jr c;obtain⟨u,q,r⟩:=h.g.oB o _ p;obtain⟨es,clock,rfl,y,z,A,s,B⟩:=r.Is;subst s;refine⟨_,_,_,_,run_range_map w t kt e (ρ.G o) es ks.length hu q,b,wU h l (.iter (seen:=[]) f) m ?_⟩;intro ρ' hG i j;have:=ic.eS (F:=F) (G:=ρ'.G) (n:=ρ'.n) (o:=H.length) (off:=0) (by rw[j];omega);rw[i] at this;exact this
  ·exact b.elim
 ·exact b.elim
def Rr{es:Array MapEntry}{k:Nat}(h:es.toList.map (·.born)=List.range k){e:MapEntry}(he:e∈es.toList):e.born<k/\es.toList[e.born]?=some e:=by
 obtain⟨j,c⟩:=Yr.1 he
 have b:(es.toList.map (·.born))[j]?=some e.born:=by rw[xr,c];rfl
 rw[h] at b
 have a:j<k:=by
  have:=(qb.1 b).1;simpa using this
 rw[X' a] at b
 have:j=e.born:=by simpa using b
 rw[<-this];exact⟨a,c⟩
def NZ(w:World){it m since:Nat}{seen:Array Nat}{es:Array MapEntry}(ty:TypeId)(hit:w.heap[it]?=some (.mapIter (some m) since seen since))(hm:w.heap[m]?=some (.map es since))(q:es.toList.map (·.born)=List.range since):((∀e∈es.toList,e.born∈seen)/\(Instr.next (.pointer (some ⟨it,0,none⟩)) false ty).run P w=.ok (.tuple #[.bool false]) w)\/∃e∈es.toList,e.born∉seen/\∃a,(a=w\/a=w.drew)/\(Instr.next (.pointer (some ⟨it,0,none⟩)) false ty).run P w=.ok (.tuple #[.bool true,e.key,e.val]) {a with heap:=a.heap.setIfInBounds it (.mapIter (some m) since (seen.push e.born) since)}:=by
 have hold:∀x∈es.toList,x.born<since:=λx c=>(Rr q c).1;simp only[Instr.next,getObj,jn,Sem.run,hit,hm,Result.andThen,next_test_false seen es since since hold (ig _),lU,jC]
 have k:∀x,x∈(Array.filter (λe=>!seen.contains e.born) es).toList↔x∈es.toList/\x.born∉seen:=by
  intro x;simp
 generalize Array.filter (λe=>!seen.contains e.born) es=L at k|-;have b:∀x∈L.toList,x.born<since:=λx c=>hold x ((k x).1 c).1;have r:L.filter (λx=>decide (x.born<since))=L:=Array.filter_eq_self.2 (λx c=>by simpa using b x (by simpa using c))
 have s:L.filter (λx=>decide (x.born>=since))=#[]:=by
  rw[Array.filter_eq_empty_iff];intro x c;have:=b x (by simpa using c);simp;omega
 simp only[r,s,Array.append_empty]
 by_cases o:L.size=0
 ·left;have:L=#[]:=Yg o;subst this;refine⟨?_,?_⟩
  · intro e he;cases Decidable.em (e.born∈seen)with
    |inl h=>exact h|inr h=>have:=(k e).2 ⟨he,h⟩;simp at this
  · simp[choose,Sem.run,Question.forced]
 ·right
  have l:L.isEmpty=false:=by simp[Array.isEmpty,o]
  simp only[l,lU,jC,Array.empty_append,Array.size_map]
  have n:∃(j:Nat) (a:World),j<L.size/\(a=w\/a=w.drew)/\(choose (Question.mapNext L.size)).run P w=.ok j a:=by
    by_cases p:L.size<=1
    ·exact⟨0,w,VW,.inl rfl,by simp[choose,Sem.run,Question.forced,p]⟩
    ·exact⟨_,w.drew,W5 _ VW,.inr rfl,by
      simp only[choose,Sem.run,Question.forced,kn,p,jC,Question.cut]
      rfl⟩
  obtain⟨j,a,t,d,f⟩:=n;have g:=(k L[j]).1 aaB;refine⟨L[j],g.1,g.2,a,d,?_⟩
  have i:a.heap[it]?=some (.mapIter (some m) since seen since):=by
    rcases d with rfl|rfl
    ·exact hit
    ·exact hit
  have fH:∀(o':Obj),(setObj it o').run P a=.ok () {a with heap:=a.heap.setIfInBounds it o'}:=λo'=>by
    simp only[setObj,Sem.run,i]
  simp only[f,Array.getElem?_map,U7 t,UW,jn,fH,Result.andThen];rfl
def TJ(h:WR T n B0 ρ F R fr H a w){x r:AV}{B:Value}(b:JC x H=some r)(s:h_ F ρ x B):∃v,(Instr.entry B).run P w=.ok v w/\h_ F ρ r v:=by
 unfold JC at b
 split at b
 ·rename_i i
  split at b
  ·rename_i o since seen hi
   split at b
   ·rename_i ks xs j I J
    split at b
    ·rename_i k v C K
     split at b
     ·rename_i L;obtain⟨hlen,t⟩:=L;injection b with b;subst b;obtain⟨rfl,M⟩:=zM s;obtain⟨X,g1,g2⟩:=h.g.oB i _ hi;obtain⟨rfl,N⟩:=g2.Rc;obtain⟨O,Q,S⟩:=h.g.oB o _ I;obtain⟨es,clock,rfl,D,E,u,G,Y⟩:=S.Is;rw[hlen] at u G;subst G;rw[<-h.hn] at E;obtain⟨U,e,y⟩:=E.get K
      have z:j<clock:=by rw[<-hlen];exact(qb.1 C).1
      have f:j<es.toList.length:=by
       have:(es.toList.map (·.key)).length=ks.length:=by rw[D]
       simp only[Eb] at this;omega
      have c:es.toList[j]?=some es.toList[j]:=nw f
      have V:es.toList[j].born=j:=by
       have l:(es.toList.map (·.born))[j]?=some es.toList[j].born:=by rw[xr,c];rfl
       rw[u,X' z] at l;exact(gB l).symm
      have m:es.toList[j].key=k:=by
       have l:=LK D c;rw[C] at l;exact(gB l).symm
      have q:es.toList[j].val=U:=by
       rw[xr,c] at e;exact gB e
      have W:es.find? (·.born==j)=some es.toList[j]:=by
       rw[<-Array.find?_toList]
       have A:(es.toList.map (·.born)).Nodup:=by rw[u];exact List.nodup_range
       have:=find_born es.toList[j] es.toList A (D7 f);rw[V] at this;exact this
      have d:seen.toArray.back?=some j:=by
       rw[<-J];simp
      refine⟨.tuple #[es.toList[j].key,es.toList[j].val],?_,.p (.tuple (vs:=[es.toList[j].key,es.toList[j].val]) (.cons (by rw[m];exact .sc t) (.cons (by rw[q];exact y) .nil)))⟩;simp only[Instr.entry,getObj,jn,Sem.run,g1,Q,Result.andThen,d,bne_self_eq_false,lU,jC,W];rfl
     ·cases b
    ·cases b
   ·cases b
  ·cases b
 ·cases b
def TS{G0:Nat->Nat}{F0:nc}{n0:Nat}{w0:World}(h:WR T n w0.heap.size ρ F R fr H a w)(y:Ext w0.heap.size G0 F0 n0 w0 ρ.G F H.length w){x:AV}{V:Value}{dst:Option Nat}{K:Fr->dd->Prop}(ty:TypeId)
  (f:OR x dst K fr H) (W:∀d,dst=some d->d<n) (z:h_ F ρ x V):∃v w' fr' H',(Instr.next V false ty).run P w=.ok v w'/\K fr' H'/\SR T n G0 F0 n0 w0 fr' H' (a.put dst v) w':=by
 unfold OR at f
 split at f
 ·rename_i i
  split at f
  ·rename_i o since seen hi
   split at f
   ·rename_i ks xs ho;obtain⟨hlen,A,B,C⟩:=f;obtain⟨rfl,aa⟩:=zM z;obtain⟨ob,g1,g2⟩:=h.g.oB i _ hi;obtain⟨rfl,D⟩:=g2.Rc;obtain⟨ab,h1,h2⟩:=h.g.oB o _ ho;obtain⟨es,clock,rfl,X,E,u,Y,e5⟩:=h2.Is;rw[hlen] at u Y;subst Y;rw[<-h.hn] at E
    have ad:es.toList.length=ks.length:=by rw[<-X];simp
    rcases NZ (P:=P) w ty g1 h1 u with⟨l,c⟩|⟨e,he,I,J,k,c⟩
    ·refine⟨_,_,_,_,c,B ?_,ρ,F,R,h.put W (.p (.tuple (vs:=[.bool false]) (.cons (.sc rfl) .nil))),y⟩;intro j hj
     have m:j<es.toList.length:=VW
     have hm:=l es.toList[j] (D7 m)
     have L:(es.toList.map (·.born))[j]?=some es.toList[j].born:=by rw[xr,nw m];rfl
     rw[u,X' VW] at L
     have:j=es.toList[j].born:=by simpa using L
     rw[this];simpa using hm
    ·obtain⟨b1,M⟩:=Rr u he;have Z:ks[e.born]?=some e.key:=LK X M
     have N:(es.toList.map (·.val))[e.born]?=some e.val:=by rw[xr,M];rfl
     have ae:xs.length=es.toList.length:=by have:=E.length;simpa using this
     obtain⟨v,hv⟩:∃v,xs[e.born]?=some v:=⟨_,nw (by have:=(qb.1 M).1;omega)⟩;obtain⟨vv,q,O⟩:=E.get hv
     have:vv=e.val:=by rw[N] at q;simpa using q.symm
     subst this;have r:BD e.key=true:=iC.1 A _ (D8 Z);have Q:=C e.born e.key v Z hv (by simpa using I)
     have s:WR T n w0.heap.size ρ F R fr H a J:=by
      rcases k with rfl|rfl
      ·exact h
      ·exact h.drew
     have t:Ext w0.heap.size G0 F0 n0 w0 ρ.G F H.length J:=by
      rcases k with rfl|rfl
      ·exact y
      ·exact y.drew
     have S:J.heap[ρ.G i]?=some (.mapIter (some (ρ.G o)) clock seen.toArray clock):=by
      rcases k with rfl|rfl
      ·exact g1
      ·exact g1
     obtain⟨s1,s2⟩:=heap_set (o':=.mapIter (some (ρ.G o)) clock (seen.toArray.push e.born) clock) S
     have U:oK F ρ.G ρ.n [.p_ o clock (seen++[e.born])] (.mapIter (some (ρ.G o)) clock (seen.toArray.push e.born) clock):=by
      have:=oK.iter (F:=F) (G:=ρ.G) (n:=ρ.n) (o:=o) (since:=clock) (seen:=seen++[e.born]) (by rw[h.hn];exact D);simpa using this
     refine⟨_,_,_,_,c,Q,ρ,F,R,(s.Nw hi aaB aaB s1 s2 U).put W (.p (.tuple (vs:=[.bool true,e.key,e.val]) (.cons (.sc rfl) (.cons (.sc r) (.cons O .nil))))),?_⟩;rw[T9];refine t.Q7 rfl rfl rfl aaB λb L hn=>s2 b ?_;rintro rfl;exact hn i (qb.1 hi).1 rfl
   ·exact f.elim
  ·exact f.elim
 ·exact f.elim
end
end Go.ns
