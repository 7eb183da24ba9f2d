/- Part of the proof of TranslateStable: layer. -/
import Derived.Great.BuildSlice
import Derived.Lib.AppendStr
import Derived.MapKept
import Derived.Laws.IdiomRangeMap
import Derived.Test.YtffcgfpaakhbjaaGreatDoorL2
set_option linter.all false
namespace Go.jN
open Go
section
variable{B:Nat} {G G':Nat->Nat} {F F':js} {n:Nat} {G0:Nat->Nat} {F0:js} {n0:Nat} {w0 w w':World}
def Ext.Lb(h:Ext B G0 F0 n0 w0 G F n w)(a:w'.os=w.os)(c:w'.tape=w.tape)(d:w'.output=w.output)(hs:w.heap.size<=w'.heap.size)
  (e:∀b,b<B->(∀o,o<n->G o≠b)->w'.heap[b]?=w.heap[b]?):Ext B G0 F0 n0 w0 G F n w':=
 h.trans ⟨a,c,d,hs,fT _,λ_ _=>rfl,λ_ h f=>absurd f VW,λ_ _ _ _=>rfl,λ_ _ _ _ h=>h,e⟩
def Ext.drew(h:Ext B G0 F0 n0 w0 G F n w):Ext B G0 F0 n0 w0 G F n w.drew:=h.Lb rfl rfl rfl (fT _) λ_ _ _=>rfl
def Ext.alloc(h:Ext B G0 F0 n0 w0 G F n w)(a:B<=w.heap.size)(o:Obj):Ext B G0 F0 n0 w0 G F n (w.alloc o):=
 h.Lb rfl rfl rfl aas λb c _=>heap_alloc_old w o VW
def Ext.setRow(h:Ext B G0 F0 n0 w0 G F n w){g:Nat}(hg:B<=g\/∃o,o<n/\G o=g)(cs:Array Value):Ext B G0 F0 n0 w0 G F n (w.setRow g cs):=
 h.Lb rfl rfl rfl (by rw[size_setRow];exact fT _) λb c hn=>setRow_other w g b cs (by
  rintro rfl;rcases hg with hg|⟨o,a,hg⟩
  ·omega
  ·exact hn o a hg)
def Ext.freeze(h:Ext B G0 F0 n0 w0 G F n w)(hF:∀b j,b<B->F' b j=F b j):Ext B G0 F0 n0 w0 G F' n w:=
 h.trans ⟨rfl,rfl,rfl,fT _,fT _,λ_ _=>rfl,λ_ h c=>absurd c VW,λb j a _=>hF b j a,λb j v a d=>(hF b j a).trans d,λ_ _ _=>rfl⟩
def Ext.WL(h:Ext B G0 F0 n0 w0 G F n w)(hG:∀o,o<n->G' o=G o)(hn:B<=G' n):Ext B G0 F0 n0 w0 G' F (n+1) w:=
 h.trans ⟨rfl,rfl,rfl,fT _,VW,hG,λo a b=>(by rw[show o=n from VW];exact hn),λ_ _ _ _=>rfl,λ_ _ _ _ h=>h,λ_ _ _=>rfl⟩
end
def SR(T:cV)(n:Nat)(G0:Nat->Nat)(F0:js)(n0:Nat)(w0:World)(fr:Fr)(H:cc)(a:Act)(w:World):Prop:=
 ∃ρ F R,WR T n w0.heap.size ρ F R fr H a w/\Ext w0.heap.size G0 F0 n0 w0 ρ.G F H.length w
def sD(P:Program)(fr:Fr)(H:cc)(t:TypeId)(x:AV):Option AV:=
 match x with
 |.ju v=>if sG P t v then some v else none|.gx b g off=>if g=fr.gen b then(match fr.box b with|some cs=>k0 P t cs off|none=>none)else none
 |.di o off=>match H[o]?with|some cs=>if mg cs then k0 P t cs off else none|none=>none
 |_=>none
section
variable{P:Program} {T:cV} {n B0:Nat} {ρ:Maps} {F:js} {R:Nat->mP} {fr:Fr} {H:cc} {a:Act} {w:World}
def P5{t:TypeId}{v:AV}(h:sG P t v=true):(∃k cs,dE P t=some (true,k)/\v=.agg cs/\cs.length=k)\/(∃k,dE P t=some (false,k)/\v.ej=true):=by
 unfold sG at h;cases a:dE P t with
 |none=>rw[a] at h;simp at h
 |some p=>
  obtain⟨b,k⟩:=p;rw[a] at h;cases b
  ·cases v<;>first|(simp at h;done)|exact .inr ⟨k,rfl,rfl⟩
  ·cases v<;>first|exact .inl ⟨k,_,rfl,rfl,by simpa using h⟩|(simp at h;done)
def x'(w:World){t:TypeId}{b off:Nat}{cs:List AV}{vs:Array Value}{ty:TypeId}{f:Nat×Nat}{z:AV}(i:w.heap[b]?=some (.cells vs ty f))
  (a:fi (ir F ρ) cs vs.toList) (e:∀c∈cs,c.ej=true) (l:k0 P t cs off=some z):∃v,(Instr.loadAt t (.pointer (some ⟨b,off,none⟩))).run P w=.ok v w/\eJ F ρ z v:=by
 unfold Instr.loadAt;simp only[Instr.sureAddr,fq,m8,hJ];rcases x_ l with⟨k,g,hle,rfl⟩|⟨k,g,h⟩
 ·refine⟨.agg ((vs.toList.drop off).take k).toArray,?_,.agg ((a.drop off).take k) (λc h=>e c (Gt (AF h)))⟩;refine xA g w ⟨b,off,none⟩ _ (by have:=a.length;simp only[xn,M1];omega) ?_;intro j v d;rw[Addr.add_lit,cell_of_row w b _ vs ty f i];rw[E6] at d
  split at d
  ·rw[Px] at d;simpa using d
  ·cases d
 ·obtain⟨v,d,m⟩:=a.get h;refine⟨v,?_,.cell m⟩;refine xI g w ⟨b,off,none⟩ v ?_;rw[cell_of_row w b _ vs ty f i];simpa using d
def IG(h:WR T n B0 ρ F R fr H a w){t:TypeId}{x z:AV}{u:Value}(c:sD P fr H t x=some z)(l:eJ F ρ x u):∃v,(Instr.loadAt t u).run P w=.ok v w/\eJ F ρ z v:=by
 unfold sD at c
 split at c
 ·rename_i v
  split at c
  ·rename_i A;injection c with c;subst c;obtain⟨b,o,vs,rfl,e,m,q⟩:=Cm l;unfold Instr.loadAt;simp only[Instr.sureAddr,fq,m8,hJ];rcases P5 A with⟨k,cs,d,rfl,B⟩|⟨k,d,i⟩
   ·refine⟨.agg vs.toArray,?_,.p (.agg e q)⟩;refine xA d w ⟨b,o,none⟩ vs (by rw[<-e.length];exact B) ?_;intro j v C;rw[Addr.add_lit];exact h.g.Fz b _ v (m j v C)
   ·rw[AV.zi i] at e;cases e with
    |cons e hn=>
     cases hn;rename_i u;refine⟨u,?_,.p e⟩;refine xI d w ⟨b,o,none⟩ u ?_;exact h.g.Fz b o u (m 0 u rfl)
  ·cases c
 ·rename_i b g off
  split at c
  ·rename_i hg
   split at c
   ·rename_i cs r;obtain⟨rfl,_⟩:=sY l;obtain⟨e,m,q,vs,ty,s,f⟩:=h.box b cs r;rw[hg];exact x' w s f q c
   ·cases c
  ·cases c
 ·rename_i o off
  split at c
  ·rename_i cs r
   split at c
   ·rename_i y;obtain⟨rfl,_⟩:=s_ l;obtain⟨E,s,f⟩:=h.g.kQ o cs r;obtain⟨vs,ty,G,rfl,_,f,D⟩:=f.EN y;rw[<-h.hn] at f;exact x' w s (f.mono λ_ _ _ h=>.p h) D c
   ·cases c
  ·cases c
 ·cases c
def Qs{w:World}{b j:Nat}{vs:Array Value}{ty:TypeId}{a:Nat×Nat}(c:w.heap[b]?=some (.cells vs ty a))(d:MS a vs.size)(g:j<vs.size):w.frozen? ⟨b,j,none⟩=false:=by
 obtain⟨lo,hi⟩:=a;unfold World.frozen?;simp only[c];rcases d with h|h
 ·injection h with e f;subst e;subst f;simp
 ·have h:vs.size<=lo:=h;simp only[Bool.and_eq_false_iff,M6];exact .inl VW
def qN(P:Program)(b o:Nat)(ty:TypeId)(c:Nat×Nat):∀(us:List Value) (i:Nat) (vs:Array Value) (w:World),w.heap[b]?=some (.cells vs ty c)->MS c vs.size->o+i+us.length<=vs.size->(∀u∈us,u.oneCell'=true)->(storeCells ⟨b,o,none⟩ us i).run P w=.ok () (w.setRow b (vs.toList.take (o+i)++us++vs.toList.drop (o+i+us.length)).toArray)
 |[],i,vs,w,d,_,_,_=>by
  have e:=setRow_self w b vs ty c d;simp only[storeCells,zG,tP,Ec,List.take_append_drop,Nh,e];rfl
 |u::us,i,vs,w,d,h,m,l=>by
  simp only[j0] at m
  have f:o+i<vs.size:=VW
  have n:w.cell? ⟨b,o+i,none⟩=some vs[o+i]:=by
   rw[cell_of_row w b _ vs ty c d];exact SB f
  have hs:(store ((⟨b,o,none⟩:Addr).add i) u).run P w=.ok () (w.setRow b (vs.setIfInBounds (o+i) u)):=by
   rw[Addr.add_lit,run_store P w _ u _ (l u aas),n];simp[Qs d h f,setCell_eq_setRow w b (o+i) vs ty c u d]
  have g:=setRow_heap w b vs (vs.setIfInBounds (o+i) u) ty c d;have p:=qN P b o ty c us (i+1) _ _ g (by simpa using h) aaQ (λx q=>l x (by simp[q]));rw[storeCells];simp only[fq,hs,hJ];rw[p,setRow_setRow]
  congr 2
  apply Bz.1;simp only[ZV];apply SE;intro j;simp only[pQ,j0,WO]
  have a:∀k,k<=vs.toList.length->(vs.toList.take k).length=k:=λk y=>by rw[xn];omega
  have r:vs.toList.length=vs.size:=aas
  rcases aah j (o+i)with hj|hj|hj
  ·rw[oy (by rw[xn,MP];omega),oy (by rw[a _ VW];omega),E6,E6,bX VW,bX hj,yZ VW]
  ·subst hj;rw[oy (by rw[xn,MP];omega),qU (by rw[a _ VW];omega),a _ VW,E6,bX VW,J2 VW,QU];rfl
  ·have s:∀X:List Value,((vs.toList.set (o+i) u).take (o+(i+1))++X)[j]?=X[j-(o+(i+1))]?:=λX=>by
    have t:((vs.toList.set (o+i) u).take (o+(i+1))).length=o+(i+1):=by rw[xn,MP];omega
    rw[qU VW,t]
   have v:∀X:List Value,(vs.toList.take (o+i)++u::X)[j]?=X[j-(o+(i+1))]?:=λX=>by
    rw[qU (by rw[a _ VW];omega),a _ VW,show j-(o+i)=(j-(o+(i+1)))+1 by omega,kW]
   rw[s,v];rcases sA (j-(o+(i+1))) us.length with hu|hu
   ·rw[oy hu,oy hu]
   ·rw[qU hu,qU hu,Px,Px,yZ VW]
    congr 1
    omega
def xC(w:World){t:TypeId}{b off k:Nat}{bl:Bool}{vs:Array Value}{ty:TypeId}{a:Nat×Nat}{v:Value}(e:w.heap[b]?=some (.cells vs ty a))(c:MS a vs.size)
  (f:dE P t=some (bl,k)) (g:v.cells.size=k) (d:off+k<=vs.size) (h:∀u∈v.cells.toList,u.oneCell'=true):(Instr.storeAt t (.pointer (some ⟨b,off,none⟩)) v).run P w=.ok () (w.setRow b (vs.toList.take off++v.cells.toList++vs.toList.drop (off+v.cells.toList.length)).toArray):=by
 unfold Instr.storeAt;simp only[Instr.sureAddr,fq,m8,hJ];unfold storeVar;simp only[fq,jh f,hJ];rw[bV (by simp[g])];have:=qN P b off ty a v.cells.toList 0 vs w e c (by simp only[Ec,Mq];omega) h;simpa using this
end
def jl(E:List Nat)(dst:Option Nat)(cells:List AV)(K:Fr->cc->Prop)(fr:Fr)(H:cc):Prop:=
 match dst with
 |some d=>
  if E.contains d then K {fr with env:=eO fr.env d (.di H.length 0)} (H++[cells.map AV.gA])
  else K {fr with env:=eO fr.env d (.gx d (fr.gen d+1) 0),box:=eO fr.box d (some cells),gen:=eO fr.gen d (fr.gen d+1)} H
 |none=>False
def ky(P:Program)(t:TypeId)(x v:AV)(K:Fr->cc->Prop)(fr:Fr)(H:cc):Prop:=
 match dE P t with
 |none=>False|some (_,n)=>
  match x with
  |.gx b g off=>
   match fr.box b with
   |some cs=>g=fr.gen b/\v.cells.length=n/\off+n<=cs.length/\dn v=true/\K {fr with box:=eO fr.box b (some (setCells cs off v.cells))} H|none=>False
  |.di o off=>
   match H[o]?with
   |some cs=>mg cs=true/\v.cells.length=n/\off+n<=cs.length/\dn v=true/\K fr (H.set o (setCells cs off v.norm.cells))|none=>False
  |_=>False
section
variable{P:Program} {T:cV} {n:Nat} {G0:Nat->Nat} {F0:js} {n0:Nat} {w0:World} {fr:Fr} {H:cc} {a:Act} {w:World}
def AV.rA{x:AV}(h:dn x=true):x.norm.cells=x.cells.map AV.gA:=by
 cases x<;>first|rfl|(simp[dn] at h)
def vy{cs:List AV}(h:∀c∈cs,c.ej=true):∀c∈cs.map AV.gA,c.ej=true:=by
 intro c a;obtain⟨x,b,rfl⟩:=ll.1 a;rw[AV.Dh];exact h x b
def ia{F:js}{ρ:Maps}{cs:List AV}{vs:List Value}(h:fi (ir F ρ) cs vs)(a:∀c∈cs,c.ej=true):∀u∈vs,u.oneCell'=true:=by
 intro u hu;obtain⟨x,b,d⟩:=h.mem hu;exact d.J3 (a x b)
def Dl{ρ:Maps}{F:js}{R:Nat->mP}(h:WR T n w0.heap.size ρ F R fr H a w)(p:Ext w0.heap.size G0 F0 n0 w0 ρ.G F H.length w){E:List Nat}{dst:Option Nat}{cells:List AV}{K:Fr->cc->Prop}
  (i:jl E dst cells K fr H) (r:∀d,dst=some d->d<n) {vs:Array Value} (ty:TypeId) (k:fi (ir F ρ) cells vs.toList) (e:∀c∈cells,c.ej=true):∃fr' H',K fr' H'/\SR T n G0 F0 n0 w0 fr' H' (a.put dst (.pointer (some ⟨w.heap.size,0,none⟩))) (w.alloc (.cells vs ty)):=by
 unfold jl at i
 split at i
 ·rename_i d;have l:=r d rfl;have q:=h.alloc (.cells vs ty);have b:R w.heap.size=.free:=h.ki _ (fT _);have hF:∀j,F w.heap.size j=none:=λj=>h.g.fresh _ j (fT _);have f:(w.alloc (.cells vs ty)).heap[w.heap.size]?=some (.cells vs ty (0,0)):=heap_alloc_new w _
  split at i
  ·obtain⟨ρ',m,hG,o,hw⟩:=q.XJ b hF f (k.tE AV.gA λ_ _ _ h=>h.gA) (vy e) l;refine⟨_,_,i,ρ',F,m,hw,?_⟩;rw[ni];exact(p.alloc h.oY _).WL hG (by rw[o];exact h.oY)
  ·obtain⟨ρ',m,hG,hw⟩:=q.Vl h.oY b hF f k e l;refine⟨_,_,i,ρ',F,m,hw,?_⟩;rw[hG];exact p.alloc h.oY _
 ·exact i.elim
def NZ(w:World){t:TypeId}{z:Value}(a:zeroOf P t=some z):(Instr.alloc t true (.tuple #[])).run P w=.ok (.pointer (some ⟨w.heap.size,0,none⟩)) (w.alloc (.cells z.cells t)):=by
 have b:(zeroValue t).run P w=.ok z w:=by
  unfold zeroOf at a;cases hi:P.info? t with
  |none=>rw[hi] at a;cases a
  |some i=>
   rw[hi] at a;simp at a;simp[zeroValue,typeInfo,hi,a]
 unfold Instr.alloc;simp only[fq,b,hJ];rfl
def zX{v:Value}(h:rL v=true)(a:∀vs,v≠ .tuple vs):(ofValue v).cells=v.cells.toList.map oX/\∀u∈v.cells.toList,u.oneCell'=true:=by
 cases v with
 |agg cs=>
  refine⟨rfl,λu hu=>?_⟩
  have b:cs.all (·.oneCell')=true:=h
  exact HI.1 b u (uX.1 hu)
 |tuple vs=>exact absurd rfl (a vs)|_=>
  constructor
  ·rw[DM rfl];exact AV.zi (wY _)
  ·simp[Value.cells,Value.oneCell']
def Mj{ρ:Maps}{F:js}{R:Nat->mP}(h:WR T n w0.heap.size ρ F R fr H a w)(E:Ext w0.heap.size G0 F0 n0 w0 ρ.G F H.length w){t:TypeId}{x v:AV}{I p:Value}{K:Fr->cc->Prop}
  (f:ky P t x v K fr H) (r:eJ F ρ x I) (j:eJ F ρ v p):∃fr' H' w',(Instr.storeAt t I p).run P w=.ok () w'/\K fr' H'/\SR T n G0 F0 n0 w0 fr' H' a w':=by
 unfold ky at f
 split at f
 ·exact f.elim
 ·rename_i bl k J
  split at f
  ·rename_i b g off
   split at f
   ·rename_i cs s;obtain⟨hg,N,u,e,f⟩:=f;obtain⟨rfl,_⟩:=sY r;obtain⟨O,S,L,vs,ty,A,m⟩:=h.box b cs s;have d:=j.cells (gl e);have hlen:=d.length
    have q:p.cells.toList.length=p.cells.size:=aas
    have B:cs.length=vs.size:=by simpa using m.length
    have dx:=m.setCells d off;rw[hlen] at dx;rw[hg]
    have i:∀c∈setCells cs off v.cells,c.ej=true:=by
     intro c y;simp only[setCells,qO] at y;rcases y with(hm|hm)|hm
     ·exact L c (AF hm)
     ·exact j.qu (gl e) c hm
     ·exact L c (Gt hm)
    refine⟨_,_,_,xC w A (.inl rfl) J VW VW (ia d (j.qu (gl e))),f,ρ,F,R,h.R3 s (by simpa using dx) i,E.setRow (.inl O) _⟩
   ·exact f.elim
  ·rename_i o off
   split at f
   ·rename_i cs s;obtain⟨z,N,u,e,f⟩:=f;obtain⟨rfl,Q⟩:=s_ r;obtain⟨U,A,m⟩:=h.g.kQ o cs s;obtain⟨vs,ty,V,rfl,C,m,M⟩:=m.EN z;have d:=j.cells (gl e);have hlen:=d.length
    have q:p.cells.toList.length=p.cells.size:=aas
    have B:cs.length=vs.size:=by simpa using m.length
    have l:fi (eZ F ρ.G ρ.n) v.norm.cells p.cells.toList:=by
     rw[AV.rA e];exact d.tE AV.gA λ_ _ _ h=>h.gA
    rw[<-h.hn] at m;have dx:=m.setCells l off
    have D:v.norm.cells.length=v.cells.length:=by rw[AV.rA e];simp
    rw[D,hlen] at dx
    have i:∀c∈setCells cs off v.norm.cells,c.ej=true:=by
     intro c y;simp only[setCells,qO] at y;rcases y with(hm|hm)|hm
     ·exact M c (AF hm)
     ·rw[AV.rA e] at hm;exact vy (j.qu (gl e)) c hm
     ·exact M c (Gt hm)
    refine⟨_,_,_,xC w A C J VW VW (ia d (j.qu (gl e))),f,ρ,F,R,h.OG s z (by simpa using dx) (by simp only[setCells,ni,xn,M1];omega) i,?_⟩;rw[MP];exact E.setRow (.inr ⟨o,by rw[<-h.hn];exact Q,rfl⟩) _
   ·exact f.elim
  ·exact f.elim
end
end Go.jN
namespace Go.jN
open Go
def nS(P:Program)(t:TypeId):Option (TypeId×Nat):=
 match P.underlying t with
 |some (.slice e)=>
  match P.info? e with
  |some i=>
   match i.zero with
   |some z=>if z.cells.size=i.size/\i.bytes<=128/\0<i.size/\z.cells.toList.all Value.oneCell' then some (e,i.size)else none|none=>none
  |none=>none
 |_=>none
def hS:Nat:=1099511627776
section
variable{P:Program}
def lQ{t e:TypeId}{sz:Nat}(h:nS P t=some (e,sz)):∃i z,P.underlying t=some (.slice e)/\P.info? e=some i/\i.zero=some z/\z.cells.size=sz/\i.size=sz/\i.bytes<=128/\0<sz:=by
 unfold nS at h
 split at h
 ·rename_i f hu
  split at h
  ·rename_i i hi
   split at h
   ·rename_i z b
    split at h
    ·rename_i a;injection h with h;injection h with c d;subst c;subst d;exact⟨i,z,hu,hi,b,a.1,rfl,a.2.1,a.2.2.1⟩
    ·cases h
   ·cases h
  ·cases h
 ·cases h
def fill_flat{sz:Nat}:∀(pv:List Value) (k:Nat) (pre rest:List Value),(∀v∈pv,v.cells.size=sz)->pre.length=k*sz->rest.length=pv.length*sz->Instr.fill (λi=>some (i*sz,sz)) (pre++rest).toArray ((pv.zipIdx k).map λx=>(x.2,x.1))=some (pre++pv.flatMap λv=>v.cells.toList).toArray:=by
 intro pv
 induction pv with
 |nil=>
  intro k pre rest _ _ f;have:rest=[]:=zI (by simpa using f);subst this;simp[Instr.fill]
 |cons v pv j=>
  intro k pre rest d g f;have h:=d v aas
  have e:v.cells.toList.length=sz:=by simp[h]
  rw[j0,yj,Rs] at f;have a:=foldl_set v.cells.toList 0 (k*sz) (pre++rest).toArray (by simp only[U1,ni,Ec];omega);simp only[Ec,e] at a
  have l:(pre++rest).toArray.toList.take (k*sz)=pre:=by simp[<-g]
  have m:(pre++rest).toArray.toList.drop (k*sz+sz)=rest.drop sz:=by
   simp only[];rw[PE];rw[F_ VW,m6,<-g]
   congr 1
   omega
  rw[l,m] at a;have c:=j (k+1) (pre++v.cells.toList) (rest.drop sz) (λu hu=>d u (by simp[hu])) (by rw[ni,g,e,yj,Rs]) (by rw[M1,f];omega);simp only[List.zipIdx_cons,k_]
  show(if(decide (v.cells.size≠sz)||decide (k*sz+v.cells.size>(pre++rest).toArray.size)) then none
   else Instr.fill (λi=>some (i*sz,sz)) (v.cells.zipIdx.foldl (λcs (x:Value×Nat)=>cs.setIfInBounds (k*sz+x.2) x.1) (pre++rest).toArray) ((pv.zipIdx (k+1)).map λx=>(x.2,x.1)))=_
  rw[bV (by simp only[h,U1,ni];simp;omega),<-aaC,ZG]
  have b:List.foldl (λcs (x:Value×Nat)=>cs.setIfInBounds (k*sz+x.2) x.1) (pre++rest).toArray v.cells.toList.zipIdx=(pre++v.cells.toList++rest.drop sz).toArray:=by
   apply Bz.1;rw[a]
  rw[b,c];simp[xS,pQ]
end
section
variable{T:cV} {n B0:Nat} {ρ:Maps} {F:js} {R:Nat->mP} {fr:Fr} {H:cc} {a:Act} {w:World}
def iX(F:js)(b k:Nat)(vs:List Value):js:=λa j=>if a=b/\j<k then vs[j]?else F a j
def uG(F:js)(b:Nat)(vs:List Value):(iX F b vs.length vs).has b 0 vs:=by
 intro i v a;show(if b=b/\0+i<vs.length then vs[0+i]?else F b (0+i))=some v;rw[tu,bX ⟨rfl,(jj.1 a).1⟩];exact a
def WR.freeze(h:WR T n B0 ρ F R fr H a w){b:Nat}{vs:Array Value}{ty:TypeId}{k:Nat}{us:List Value}(i:R b=.free)(hF:∀j,F b j=none)
  (z:w.heap[b]?=some (.cells vs ty (0,0))) (t:Fj vs) (A:∀j v,j<k->us[j]?=some v->vs[j]?=some v):uT F (iX F b k us) ρ ρ/\WR T n B0 ρ (iX F b k us) R fr H a w:=by
 have hold:∀f j v,F f j=some v->iX F b k us f j=some v:=by
  intro f j v p;unfold iX;rw[bV]
  ·exact p
  ·rintro⟨rfl,_⟩;rw[hF j] at p;cases p
 have e:∀f j,f≠b->iX F b k us f j=F f j:=by
  intro f j B;unfold iX;rw[bV (λh=>B h.1)]
 have q:∀G n,Et F (iX F b k us) G G n n:=λG n=>⟨hold,fT _,λ_ _=>rfl⟩;have r:uT F (iX F b k us) ρ ρ:=⟨q _ _,λ_=>fT _,λ_ _ _=>rfl,λ_=>fT _,λ_ _ _=>rfl⟩;refine⟨r,⟨⟨?_,?_,h.g.inj,?_,?_,λg x N=>(h.g.DW g x N).grow (q _ _),?_⟩,h.size,h.defers,h.env.grow r,h.hn,h.lg,h.ag,?_,?_,?_,h.mL,h.ki,h.oY⟩⟩
 ·intro f j v p;unfold iX at p
  split at p
  ·rename_i O;obtain⟨rfl,C⟩:=O;rw[cell_of_row w f j vs ty (0,0) z];exact A j v C p
  ·exact h.g.Fz f j v p
 ·intro o cs y;obtain⟨D,u,s⟩:=h.g.kQ o cs y;exact⟨D,u,s.grow (q _ _)⟩
 ·intro o j y E;rw[e]
  ·exact h.g.gF o j y E
  ·rintro rfl;have:=h.mL o y;rw[i] at this;cases this
 ·intro f j l;rw[e]
  ·exact h.g.fresh f j l
  ·rintro rfl;have:=oB z;omega
 ·intro P f j v p
  by_cases l:f=b
  ·subst l;exact⟨vs,ty,_,z,.inl rfl,t⟩
  ·rw[e _ _ l] at p;exact h.g.row P f j v p
 ·intro d cs Q;obtain⟨u,s,I,vs',J,K,L⟩:=h.box d cs Q;exact⟨u,s,I,vs',J,K,L.mono λ_ _ _ h=>h.grow r⟩
 ·intro k' m S f c sz U;obtain⟨u,s,I,M,K,L⟩:=h.tok k' m S f c sz U;refine⟨u,s,I,M,K,λj C=>?_⟩;rw[e]
  ·exact L j C
  ·rintro rfl;rw[i] at s;cases s
 ·intro f j v p
  by_cases l:f=b
  ·subst l;rw[i];simp
  ·rw[e _ _ l] at p;exact h.oV f j v p
def rO{F:js}{b k:Nat}{us:List Value}{a j:Nat}(h:a≠b):iX F b k us a j=F a j:=by
 unfold iX;rw[bV (λc=>h c.1)]
end
def lv(P:Program)(t n:Nat)(parts:List (Nat×AV)):Option AV:=
 match nS P t with
 |some (_,sz)=>
  if parts.map (·.1)=List.range n/\parts.all (λp=>p.2.cells.length==sz&&dn p.2)=true/\n*sz<=16777216 then some (.slice .full (parts.map λp=>p.2.norm))else none
 |none=>none
def D1{α:Type}(parts:List (Nat×α))(n:Nat)(h:parts.map (·.1)=List.range n):parts=(parts.map (·.2)).zipIdx.map λx=>(x.2,x.1):=by
 have c:parts.length=n:=by have:=congrArg List.length h;simpa using this
 apply List.ext_getElem
 ·simp
 ·intro i b d
  have a:(parts.map (·.1))[i]?=(List.range n)[i]?:=by rw[h]
  simp only[sw,mi b,O8,Ui (show i<n by omega),uq] at a;simp only[List.getElem_map,List.getElem_zipIdx,tu];exact Prod.ext a rfl
section
variable{P:Program} {T:cV} {n:Nat} {G0:Nat->Nat} {F0:js} {n0:Nat} {w0:World} {fr:Fr} {H:cc} {a:Act} {w:World}
def Ek(w:World){t e:TypeId}{sz:Nat}(h:nS P t=some (e,sz)):(Instr.buildSlice t 0 #[]).run P w=.ok (.slice (some ⟨w.heap.size,0,none⟩) 0 0) (w.alloc (.cells #[] e)):=by
 obtain⟨i,z,hu,hi,b,_⟩:=lQ h;simp[Instr.buildSlice,run_underlying hu,sizeOf,typeInfo,hi,Instr.fill,newRow]
 have a:((Array.range 0).map λ_=>(default:Value))=#[]:=by
  apply Uo;simp
 rw[a]
def Nx{F:js}{ρ:Maps}:∀{parts:List (Nat×AV)} {pv:List (Nat×Value)},fi (λ(x:Nat×AV) (y:Nat×Value)=>x.1=y.1/\eJ F ρ x.2 y.2) parts pv->(∀p∈parts,dn p.2=true)->fi (eZ F ρ.G ρ.n) ((parts.map λp=>p.2.norm).flatMap AV.cells) ((pv.map (·.2)).flatMap λv=>v.cells.toList)/\∀c∈(parts.map λp=>p.2.norm).flatMap AV.cells,c.ej=true:=by
 intro parts pv h hn
 induction h with
 |nil=>exact⟨.nil,aas⟩|@cons p q ps j d _ e=>
  obtain⟨i1,i2⟩:=e λp f=>hn p (by simp[f]);have a:=hn p aas;have g:=d.2.cells (gl a);have i:=d.2.qu (gl a)
  have b:fi (eZ F ρ.G ρ.n) p.2.norm.cells q.2.cells.toList:=by
   rw[AV.rA a];exact g.tE AV.gA λ_ _ _ h=>h.gA
  refine⟨?_,?_⟩
  ·simp only[k_,xS];exact b.append i1
  ·intro c hcm;simp only[k_,xS,qO] at hcm;rcases hcm with hcm|hcm
   ·rw[AV.rA a] at hcm;exact vy i c hcm
   ·exact i2 c hcm
def yJ{ρ:Maps}{F:js}(w:World){t k:Nat}{parts:List (Nat×AV)}{pv:List (Nat×Value)}{r:AV}
  (g:lv P t k parts=some r) (b:fi (λ(x:Nat×AV) (y:Nat×Value)=>x.1=y.1/\eJ F ρ x.2 y.2) parts pv):∃l us e sz,r=.slice .full l/\l.length=k/\k<=maxLen/\(∀x∈l,x.cells.length=sz)/\fi (eZ F ρ.G ρ.n) (l.flatMap AV.cells) us/\(∀c∈l.flatMap AV.cells,c.ej=true)/\(Instr.buildSlice t k pv.toArray).run P w=.ok (.slice (some ⟨w.heap.size,0,none⟩) k k) (w.alloc (.cells us.toArray e)):=by
 unfold lv at g
 split at g
 ·rename_i e sz A
  split at g
  ·rename_i L;obtain⟨j,B,M⟩:=L;injection g with g;subst g;obtain⟨i,z,hu,hi,N,O,m,Q,h⟩:=lQ A
   have a:∀p∈parts,p.2.cells.length=sz/\dn p.2=true:=by
    intro p d;have:=im.1 B p d;simpa using this
   have o:parts.length=k:=by have:=congrArg List.length j;simpa using this
   have s:pv.length=k:=by rw[<-b.length];exact o
   have C:pv.map (·.1)=List.range k:=by
    rw[<-j];clear j B a o s
    induction b with
    |nil=>rfl|cons H _ R=>simp only[k_,R,H.1]
   have D:=D1 pv k C
   have I:∀v∈pv.map (·.2),v.cells.size=sz:=by
    intro v S;obtain⟨q,T,rfl⟩:=ll.1 S;obtain⟨p,d,U⟩:=b.mem T;have H:=U.2.cells (gl (a p d).2);have:=H.length;rw[(a p d).1] at this;simpa using this.symm
   obtain⟨u,f⟩:=Nx b λp d=>(a p d).2
   have E:(Instr.buildSlice t k pv.toArray).run P w=.ok (.slice (some ⟨w.heap.size,0,none⟩) k k) (w.alloc (.cells ((pv.map (·.2)).flatMap λv=>v.cells.toList).toArray e)):=by
    rcases Nat.eq_zero_or_pos k with J|hkpos
    ·subst J;have:pv=[]:=zI s;subst this;exact Ek w A
    ·have K:=fill_flat (sz:=sz) (pv.map (·.2)) 0 [] ((Array.range (k*sz)).map (z.cells[· %z.cells.size]!)).toList I aas (by simp[s])
     rw[<-D] at K;simp only[m6,Nh] at K;exact run_buildSlice w t e k pv.toArray _ i z hu hi N (by rw[m];omega) (by rw[m];have:=Nat.mul_pos hkpos h;omega) (by rw[m];exact K)
   refine⟨parts.map λp=>p.2.norm,_,e,sz,rfl,by simp[o],?_,?_,u,f,E⟩
   ·have:k<=k*sz:=TW k h;simp only[maxLen];omega
   ·intro x V;obtain⟨p,d,rfl⟩:=ll.1 V;rw[AV.rA (a p d).2,Eo];exact(a p d).1
  ·cases g
 ·cases g
def C9{ρ:Maps}{F:js}{R:Nat->mP}(h:WR T n w0.heap.size ρ F R fr H a w)(D:Ext w0.heap.size G0 F0 n0 w0 ρ.G F H.length w){t k:Nat}{parts:List (Nat×AV)}{pv:List (Nat×Value)}{r:AV}
  {dst:Option Nat} (A:lv P t k parts=some r) (i:fi (λ(x:Nat×AV) (y:Nat×Value)=>x.1=y.1/\eJ F ρ x.2 y.2) parts pv) (E:∀d,dst=some d->d<n):∃v w',(Instr.buildSlice t k pv.toArray).run P w=.ok v w'/\SR T n G0 F0 n0 w0 (fr.put dst r) H (a.put dst v) w':=by
 obtain⟨l,us,e,sz,rfl,B,Ak,s,c,f,m⟩:=yJ w A i;have q:=heap_alloc_new w (.cells us.toArray e);obtain⟨z,hw⟩:=(h.alloc (.cells us.toArray e)).freeze (us:=us) (k:=us.length) (h.ki _ (fT _)) (λj=>h.g.fresh _ j (fT _)) q (λu hu=>ia (c.mono λ_ _ _ h=>ir.p h) f u (by simpa using hu)) (by intro j v _ I;simpa using I);refine⟨_,_,m,ρ,_,R,hw.put E (x:=.slice .full l) (v:=.slice (some ⟨w.heap.size,0,none⟩) k k) ?_,?_⟩
 ·have C:=eZ.slice (F:=iX F w.heap.size us.length us) (G:=ρ.G) (n:=ρ.n) (tag:=.full) (l:=l) (b:=w.heap.size) (o:=0) (base:=some ⟨w.heap.size,0,none⟩) (cap:=l.length) (sz:=sz)
   (.nK (c.mono λ_ _ _ h=>h.grow z.g)) (uG _ _ _) (λ_=>rfl) s f (fT _) (by rw[B];exact Ak) (.inr ⟨rfl,rfl⟩)
  rw[B] at C;exact .p C
 ·exact(D.alloc h.oY (.cells us.toArray e)).freeze (F':=iX F w.heap.size us.length us) λb j A=>rO (by have:=h.oY;omega)
end
def nO(fr:Fr)(tag:Tag)(l:List AV):Bool:=
 match tag with
 |.gY=>false|.full=>true|.loc k g=>g==fr.dv k&&fr.r_ k==some l.length
def sW(tag:Tag)(r_:Nat->Option Nat):Nat->Option Nat:=
 match tag with
 |.loc k _=>eO r_ k none|_=>r_
def grown(fr:Fr)(d:Nat)(tag:Tag)(l m:List AV):Fr:=
 {fr with env:=eO fr.env d (.slice (.loc d (fr.dv d+1)) (l++m)),r_:=eO (sW tag fr.r_) d (some (l.length+m.length)),dv:=eO fr.dv d (fr.dv d+1)}
def lD(P:Program)(T:cV)(c:Call)(dst:Option Nat)(K:Fr->cc->Prop)(fr:Fr)(H:cc):Prop:=
 match dst,c.args.toList,c.argTypes.toList with
 |some d,[s,x],[t,a]=>
  match nS P t,ev T fr s,ev T fr x with
  |some (_,sz),.slice tag l,.slice _ m=>
   a=t/\jm sz l=true/\jm sz m=true/\l.length+m.length<=hS/\(if nO fr tag l then K (grown fr d tag l m) H else m=[]/\K (fr.put (some d) (.slice .gY l)) H)
  |_,_,_=>False
 |_,_,_=>False
section
variable{P:Program} {T:cV} {n:Nat} {G0:Nat->Nat} {F0:js} {n0:Nat} {w0:World} {fr:Fr} {H:cc} {a:Act} {w:World}
def Ed(w:World){t e:TypeId}{sz:Nat}(h:nS P t=some (e,sz))(ty:TypeId)(base:Option Addr)(len cap:Nat)(a:len<=cap)(x:Value)(f:∃b c,x=.slice b 0 c):(Builtin.append_ #[t,t] ty #[.slice base len cap,x]).run P w=.ok (.slice base len cap) w:=by
 obtain⟨i,z,hu,hi,m,g,j,k,d⟩:=lQ h;obtain⟨b,c,rfl⟩:=f;cases b with
 |none=>
  cases base with
  |none=>simp[Builtin.append_,run_underlying hu,sizeOf,typeInfo,hi,Builtin.lenOf,a,Builtin.firstCells]|some l=>simp[Builtin.append_,run_underlying hu,sizeOf,typeInfo,hi,Builtin.lenOf,a,Builtin.firstCells,storeCells]
 |some b=>
  cases base with
  |none=>simp[Builtin.append_,run_underlying hu,sizeOf,typeInfo,hi,Builtin.lenOf,a,Builtin.firstCells,loadCells,loadCellsFrom]|some l=>simp[Builtin.append_,run_underlying hu,sizeOf,typeInfo,hi,Builtin.lenOf,a,Builtin.firstCells,storeCells,loadCells,loadCellsFrom]
def we(w:World)(t ty e n:TypeId)(i:TypeInfo)(o:P.underlying t=some (.slice e))(hi:P.info? e=some i)
  (g b d:Nat) (cur:Array Value) (hg:w.heap[g]?=some (.cells cur n (0,0)))
  (a:Addr) (m c:Nat) (news:List Value) (p:news.length=m*i.size) (f:∀j u,news[j]?=some u->w.cell? (a.add j)=some u) (q:∀u∈news,u.oneCell'=true)
  (h:b+m<=d) (k:b*i.size+news.length<=cur.size):(Builtin.append_ #[t,t] ty #[.slice (some ⟨g,0,none⟩) b d,.slice (some a) m c]).run P w=.ok (.slice (some ⟨g,0,none⟩) (b+m) d) (w.setRow g (cur.toList.take (b*i.size)++news++cur.toList.drop (b*i.size+news.length)).toArray):=by
 have r:=run_firstCells_some (P:=P) w i.size m a m c news p f;have l:=run_storeCells_at P g (b*i.size) n news 0 cur w hg (by simpa using k) q;simp only[Ec] at l;simp[Builtin.append_,run_underlying o,sizeOf,typeInfo,hi,Builtin.lenOf,h,r,Addr.add_lit,l]
def WR.rename{ρ:Maps}{F:js}{R:Nat->mP}{B0:Nat}(h:WR T n B0 ρ F R fr H a w){tag:Tag}{l:List AV}{base:Option Addr}{cap d:Nat}(hd:d<n)
  (hp:eZ F ρ.G ρ.n (.slice .gY l) (.slice base l.length cap)) (y:tag=.full/\cap=l.length\/∃k g,tag=.loc k g/\g=fr.dv k/\fr.r_ k=some l.length/\ry ρ k g l base cap):∃ρ' Q,ρ'.G=ρ.G/\ρ'.n=ρ.n/\(∀k g,tag=.loc k g->ρ'.A d (fr.dv d+1)=ρ.A k g)/\ρ'.ag d=fr.dv d+1/\WR T n B0 ρ' F Q (grown fr d tag l []) H (a.put (some d) (.slice base l.length cap)) w:=by
 let f:Option (Nat×Nat×Nat):=match tag with|.loc k g=>ρ.A k g|_=>none
 let ρ':Maps:={ρ with A:=qM ρ.A d (fr.dv d+1) f,ag:=eO ρ.ag d (fr.dv d+1)}
 let Q:Nat->mP:=match f with|some (b,_,_)=>eO R b (.arr d)|none=>R
 have B:uT F F ρ ρ':=by
  refine⟨.refl,λ_=>fT _,λ_ _ _=>rfl,λk=>?_,λk g hg=>?_⟩
  ·show ρ.ag k<=eO ρ.ag d (fr.dv d+1) k;unfold eO
   split
   ·rename_i S;subst S;rw[h.ag];omega
   ·exact fT _
  ·show qM ρ.A d (fr.dv d+1) f k g=ρ.A k g;unfold qM;rw[bV];rintro⟨rfl,rfl⟩;rw[h.ag] at hg;omega
 have i:∀b c sz,f=some (b,c,sz)->∃k g,tag=.loc k g/\g=fr.dv k/\fr.r_ k=some l.length/\ρ.A k (fr.dv k)=some (b,c,sz)/\base=some ⟨b,0,none⟩/\cap=c/\∀x∈l,x.cells.length=sz:=by
  intro b c sz q;rcases y with⟨rfl,_⟩|⟨k,g,rfl,rfl,z,t⟩
  ·exact absurd q (by simp[f])
  ·refine⟨k,_,rfl,rfl,z,q,?_⟩;unfold ry at t;have C:ρ.A k (fr.dv k)=some (b,c,sz):=q;rw[C] at t;exact t
 have D:∀J,(∀k,R J≠ .arr k)->Q J=R J:=by
  intro J W;show(match f with|some (b,_,_)=>eO R b (.arr d)|none=>R) J=R J;cases q:f with
  |none=>rfl|some p=>
   obtain⟨b,c,sz⟩:=p;obtain⟨k,g,_,_,z,r,_⟩:=i b c sz q;have K:=(h.tok k _ z b c sz r).2.1;simp only[eO];rw[bV];rintro rfl;exact W k K
 have M:ry ρ' d (fr.dv d+1) l base cap:=by
  unfold ry
  have e:ρ'.A d (fr.dv d+1)=f:=by show qM ρ.A d (fr.dv d+1) f d (fr.dv d+1)=f;simp[qM]
  rw[e];cases q:f with
  |none=>
   rcases y with⟨_,hc⟩|⟨k,g,rfl,rfl,z,t⟩
   ·exact hc
   ·unfold ry at t;have C:ρ.A k (fr.dv k)=none:=q;rw[C] at t;exact t
  |some p=>
   obtain⟨b,c,sz⟩:=p;obtain⟨_,_,_,_,_,_,X,U,Y⟩:=i b c sz q;exact⟨X,U,Y⟩
 refine⟨ρ',Q,rfl,rfl,?_,by show eO ρ.ag d (fr.dv d+1) d=_;simp[eO],⟨⟨h.g.Fz,h.g.kQ,h.g.inj,h.g.gF,h.g.fresh,h.g.DW,h.g.row⟩,by rw[A1];exact h.size,by rw[put_defers];exact h.defers,?_,h.hn,h.lg,?_,?_,?_,?_,?_,?_,h.oY⟩⟩
 ·rintro k g rfl;show qM ρ.A d (fr.dv d+1) f d (fr.dv d+1)=ρ.A k g;simp[qM,f]
 ·have h0:=(h.env.grow B).put (d:=some d) (by intro E he;injection he with he;subst he;rw[h.size];exact hd) (x:=.slice (.loc d (fr.dv d+1)) l) (v:=.slice base l.length cap)
   (.cell (.loc (hp.grow B.g) (by show _<=eO ρ.ag d (fr.dv d+1) d;simp[eO]) M))
  simp only[grown,zG];exact h0
 ·intro k;show eO ρ.ag d (fr.dv d+1) k=eO fr.dv d (fr.dv d+1) k;unfold eO
  split
  ·rfl
  ·exact h.ag k
 ·intro E cs Z;obtain⟨X,U,Y,vs,ty,h4,h5⟩:=h.box E cs Z;exact⟨X,by rw[D _ (by intro k;show R (ρ.L E (fr.gen E))≠_;rw[U];simp)];exact U,Y,vs,ty,h4,h5.mono λ_ _ _ h=>h.grow B⟩
 ·intro k m s b c sz q;simp only[grown,eO] at s
  by_cases u:k=d
  ·subst u;simp only[if_true,tP,Ec,uq] at s;subst s
   have N:(grown fr k tag l []).dv k=fr.dv k+1:=by simp[grown,eO]
   rw[N] at q
   have V:ρ'.A k (fr.dv k+1)=f:=by show qM ρ.A k (fr.dv k+1) f k (fr.dv k+1)=f;simp[qM]
   rw[V] at q;obtain⟨k2,g2,_,_,z,r,ak,an,ao⟩:=i b c sz q;obtain⟨N,V,e3,aa,O,e5⟩:=h.tok k2 _ z b c sz r;refine⟨N,?_,e3,aa,O,e5⟩;show(match f with|some (b,_,_)=>eO R b (.arr k)|none=>R) b=.arr k;rw[q];simp[eO]
  ·simp only[bV u] at s
   have N:(grown fr d tag l []).dv k=fr.dv k:=by simp[grown,eO,u]
   rw[N] at q
   have V:ρ'.A k (fr.dv k)=ρ.A k (fr.dv k):=by show qM ρ.A d (fr.dv d+1) f k (fr.dv k)=_;simp[qM,u]
   rw[V] at q
   have P:fr.r_ k=some m/\∀k2 g2,tag=.loc k2 g2->k≠k2:=by
    unfold sW at s
    split at s
    ·rename_i k2 g2;simp only[eO] at s
     split at s
     ·cases s
     ·rename_i ab;refine⟨s,λk3 g3 he=>?_⟩;injection he with ad aq;subst ad;exact ab
    ·rename_i ae;exact⟨s,λk3 g3 he=>absurd he (ae k3 g3)⟩
   obtain⟨e3,O,e5,af,e6,e7⟩:=h.tok k m P.1 b c sz q;refine⟨e3,?_,e5,af,e6,e7⟩;show(match f with|some (b,_,_)=>eO R b (.arr d)|none=>R) b=.arr k;cases ah:f with
   |none=>exact O|some p=>
    obtain⟨b3,c3,I⟩:=p;obtain⟨k2,g2,ai,_,z,r,_⟩:=i b3 c3 I ah;have K:=(h.tok k2 _ z b3 c3 I r).2.1;simp only[eO];rw[bV]
    ·exact O
    ·rintro rfl;rw[O] at K;injection K with K;exact P.2 k2 g2 ai K
 ·intro b j v hf;intro E;have S:=h.oV b j v hf E;show(match f with|some (b,_,_)=>eO R b (.arr d)|none=>R) b≠ .box E;cases q:f with
  |none=>exact S|some p=>
   obtain⟨b3,c3,I⟩:=p;simp only[eO]
   split
   ·simp
   ·exact S
 ·intro o t;have:=h.mL o t;rw[D _ (by intro k;show R (ρ.G o)≠_;rw[this];simp)];exact this
 ·intro b hb;have:=h.ki b hb;rw[D b (by rw[this];simp)];exact this
end
end Go.jN
namespace Go.jN
open Go
def JW{α:Type}(f:Nat->α)(i:Nat)(x y:α):eO (eO f i x) i y=eO f i y:=by
 funext j
 unfold eO
 split<;>rfl
def yC{α:Type}(f:Nat->α)(i j:Nat)(x:α)(h:j≠i):eO f i x j=f j:=by simp[eO,h]
def uY{a:Array Value}(h:∀u∈a.toList,u.oneCell'=true)(c:0<a.size)(k:Nat):∀u∈(Builtin.zeroCells a k).toList,u.oneCell'=true:=by
 intro u hu;unfold Builtin.zeroCells at hu;simp only[KP,ll] at hu;obtain⟨i,_,rfl⟩:=hu;have b:i%a.size<a.size:=UT _ c;rw[getElem!_pos a _ b];exact h _ aas
def Kr{P:Program}{t e:TypeId}{sz:Nat}(h:nS P t=some (e,sz)){i:TypeInfo}{z:Value}(hi:P.info? e=some i)(c:i.zero=some z):∀u∈z.cells.toList,u.oneCell'=true:=by
 unfold nS at h
 split at h
 ·rename_i g hu
  split at h
  ·rename_i j a
   split at h
   ·rename_i k b
    split at h
    ·rename_i d;injection h with h;injection h with f l;subst f;rw[hi] at a;cases a;rw[c] at b;cases b
     exactλu hu=>im.1 d.2.2.2 u hu
    ·cases h
   ·cases h
  ·cases h
 ·cases h
section
variable{P:Program} {T:cV} {n B0:Nat} {ρ:Maps} {F:js} {R:Nat->mP} {fr:Fr} {H:cc} {a:Act} {w:World}
def WR.extend(h:WR T n B0 ρ F R fr H a w){d p q b c sz:Nat}{news:List Value}(ht:fr.r_ d=some p)(hA:ρ.A d (fr.dv d)=some (b,c,sz))(hq:news.length=q*sz)(B:p+q<=c)(E:∀u∈news,u.oneCell'=true)
  {cur:Array Value} {ty:TypeId} (U:w.heap[b]?=some (.cells cur ty (0,0))):∃F',uT F F' ρ ρ/\(∀e j,e≠b->F' e j=F e j)/\(∀(j:Nat) (v:Value),news[j]?=some v->F' b (p*sz+j)=some v)/\WR T n B0 ρ F' R {fr with r_:=eO fr.r_ d (some (p+q))} H a (w.setRow b (cur.toList.take (p*sz)++news++cur.toList.drop (p*sz+news.length)).toArray):=by
 obtain⟨h1,W,h3,X,⟨vs,s,V,h5,L⟩,Y⟩:=h.tok d p ht b c sz hA;rw[U] at V;injection V with V;injection V with Z M;subst Z;subst M;have aa:(p+q)*sz<=c*sz:=Cb _ B;rw[yj] at aa
 have ab:p*sz<=cur.toList.length:=aaQ
 let F':js:=λe j=>if e=b/\p*sz<=j/\j<p*sz+news.length then news[j-p*sz]?else F e j
 have hold:∀e j v,F e j=some v->F' e j=some v:=by
  intro e j v l;show(if e=b/\p*sz<=j/\j<p*sz+news.length then news[j-p*sz]?else F e j)=some v;rw[bV]
  ·exact l
  ·rintro⟨rfl,C,_⟩;rw[Y j C] at l;cases l
 have f:∀e j,e≠b->F' e j=F e j:=by
  intro e j t;show(if e=b/\p*sz<=j/\j<p*sz+news.length then news[j-p*sz]?else F e j)=F e j;rw[bV (λh=>t h.1)]
 have N:∀(j:Nat) (v:Value),news[j]?=some v->F' b (p*sz+j)=some v:=by
  intro j v hv;have C:=(jj.1 hv).1;show(if b=b/\p*sz<=p*sz+j/\p*sz+j<p*sz+news.length then news[p*sz+j-p*sz]?else F b (p*sz+j))=some v;rw[bX ⟨rfl,VW,VW⟩,IY];exact hv
 have I:∀G n,Et F F' G G n n:=λG n=>⟨hold,fT _,λ_ _=>rfl⟩;have J:uT F F' ρ ρ:=⟨I _ _,λ_=>fT _,λ_ _ _=>rfl,λ_=>fT _,λ_ _ _=>rfl⟩
 have y:∀e,R e≠ .arr d->e≠b:=by rintro e i rfl;exact i W
 have D:Fj (cur.toList.take (p*sz)++news++cur.toList.drop (p*sz+news.length)).toArray:=by
  intro u hu;simp only[qO] at hu;rcases hu with(hu|hu)|hu
  ·exact L u (AF hu)
  ·exact E u hu
  ·exact L u (Gt hu)
 have r:=setRow_heap w b cur (cur.toList.take (p*sz)++news++cur.toList.drop (p*sz+news.length)).toArray ty (0,0) U;refine⟨F',J,f,N,⟨⟨?_,?_,h.g.inj,?_,?_,λg x hx=>(h.g.DW g x hx).grow (I _ _),?_⟩,h.size,h.defers,h.env.grow J,h.hn,h.lg,h.ag,?_,?_,?_,h.mL,?_,by rw[size_setRow];exact h.oY⟩⟩
 ·intro e j v l
  by_cases i:e=b
  ·subst i;rw[cell_of_row _ e j _ ty (0,0) r];simp only[ZY];change (if e=e/\p*sz<=j/\j<p*sz+news.length then news[j-p*sz]?else F e j)=some v at l
   split at l
   ·rename_i hc;rw[pQ,qU (by rw[xn];omega),xn,RW ab,oy VW];exact l
   ·rename_i hc
    have C:j<p*sz:=by
     rcases sA j (p*sz)with h'|h'
     ·exact h'
     ·rw[Y j h'] at l;cases l
    have:=h.g.Fz e j v l;rw[cell_of_row w e j cur ty (0,0) U] at this;rw[pQ,oy (by rw[xn];omega),E6,bX C];simpa using this
  ·rw[cell_setRow_other _ _ _ _ _ i];rw[f _ _ i] at l;exact h.g.Fz e j v l
 ·intro o cs O;obtain⟨ad,g1,g2⟩:=h.g.kQ o cs O;refine⟨ad,?_,g2.grow (I _ _)⟩;rw[setRow_other]
  ·exact g1
  ·exact y _ (by rw[h.mL o (jj.1 O).1];simp)
 ·intro o j O ae;rw[f]
  ·exact h.g.gF o j O ae
  ·exact y _ (by rw[h.mL o O];simp)
 ·intro e j i;rw[size_setRow] at i;rw[f]
  ·exact h.g.fresh e j i
  ·rintro rfl;have:=oB U;omega
 ·intro hT e j v l
  by_cases i:e=b
  ·subst i;exact⟨_,ty,_,r,.inl rfl,D⟩
  ·rw[f _ _ i] at l;obtain⟨af,ah,ai,g1,g2⟩:=h.g.row hT e j v l;exact⟨af,ah,ai,by rw[setRow_other _ _ _ _ i];exact g1,g2⟩
 ·intro d' cs ak;obtain⟨g1,g2,g3,vs',s,g4,g5⟩:=h.box d' cs ak;refine⟨g1,g2,g3,vs',s,?_,g5.mono λ_ _ _ h=>h.grow J⟩;rw[setRow_other]
  ·exact g4
  ·exact y _ (by rw[g2];simp)
 ·intro k m P e c' Q S;simp only[eO] at P
  by_cases K:k=d
  ·subst K;simp only[if_true,uq] at P;subst P;have z:ρ.A k (fr.dv k)=some (e,c',Q):=S;rw[hA] at z;injection z with z;injection z with Z M;injection M with M e3;subst Z;subst M;subst e3;refine⟨h1,W,⟨by have:=h3.1;omega,B⟩,X,⟨_,ty,r,?_,D⟩,?_⟩
   ·simp only[U1,ni,xn,M1,Mq];omega
   ·intro j C;rw[yj,<-hq] at C;show(if b=b/\p*sz<=j/\j<p*sz+news.length then news[j-p*sz]?else F b j)=none;rw[bV VW];exact Y j VW
  ·simp only[bV K] at P;obtain⟨g1,g2,g3,an,⟨vs',s,g4,g5⟩,g6⟩:=h.tok k m P e c' Q S;have t:e≠b:=y _ (by rw[g2];simp[K]);refine⟨g1,g2,g3,an,⟨vs',s,by rw[setRow_other _ _ _ _ t];exact g4,g5⟩,λj C=>?_⟩;rw[f _ _ t];exact g6 j C
 ·intro e j v l
  by_cases i:e=b
  ·subst i;rw[W];simp
  ·rw[f _ _ i] at l;exact h.oV e j v l
 ·intro e i;rw[size_setRow] at i;exact h.ki e i
def WR.SM(h:WR T n B0 ρ F R fr H a w){b:Nat}{vs:Array Value}{ty:TypeId}{us:List Value}{c sz:Nat}{tag:Tag}{l m:List AV}{d:Nat}(hd:d<n)(hb:B0<=b)(p:R b=.free)
  (hF:∀j,F b j=none) (U:w.heap[b]?=some (.cells vs ty (0,0))) (y:Fj vs) (V:vs.size=c*sz) (W:0<l.length+m.length) (hp:l.length+m.length<=c) (hc:c<=maxLen) (ae:us.length=(l.length+m.length)*sz)
  (E:∀(j:Nat) (v:Value),us[j]?=some v->vs[j]?=some v) (s:ft F ρ.G ρ.n ((l++m).flatMap AV.cells) us) (I:∀x∈(l++m).flatMap AV.cells,x.ej=true) (J:∀x∈l++m,x.cells.length=sz):∃ρ' K,ρ'.G=ρ.G/\WR T n B0 ρ' (iX F b us.length us) K (grown fr d tag l m) H (a.put (some d) (.slice (some ⟨b,0,none⟩) (l.length+m.length) c)) w:=by
 obtain⟨z,M⟩:=h.freeze (k:=us.length) (us:=us) p hF U y (λj v _ hv=>E j v hv)
 let ρ':Maps:={ρ with A:=qM ρ.A d (fr.dv d+1) (some (b,c,sz)),ag:=eO ρ.ag d (fr.dv d+1)}
 let K:Nat->mP:=eO R b (.arr d)
 have t:uT F (iX F b us.length us) ρ ρ':=by
  refine⟨z.g,λ_=>fT _,λ_ _ _=>rfl,λk=>?_,λk g hg=>?_⟩
  ·show ρ.ag k<=eO ρ.ag d (fr.dv d+1) k;unfold eO
   split
   ·rename_i h';subst h';rw[h.ag];omega
   ·exact fT _
  ·show qM ρ.A d (fr.dv d+1) (some (b,c,sz)) k g=ρ.A k g;unfold qM;rw[bV];rintro⟨rfl,rfl⟩;rw[h.ag] at hg;omega
 have B:uT (iX F b us.length us) (iX F b us.length us) ρ ρ':=⟨.refl,t.lg,t.L,t.ag,t.A⟩
 have q:∀f,R f≠ .free->K f=R f:=by
  intro f i;show eO R b (.arr d) f=R f;unfold eO;rw[bV];rintro rfl;exact i p
 have af:∀f,R f≠ .free->f≠b:=by rintro f i rfl;exact i p
 refine⟨ρ',K,rfl,⟨M.g,by rw[A1];exact h.size,by rw[put_defers];exact h.defers,?_,h.hn,h.lg,?_,?_,?_,?_,?_,?_,h.oY⟩⟩
 ·have N:eJ (iX F b us.length us) ρ' (.slice (.loc d (fr.dv d+1)) (l++m)) (.slice (some ⟨b,0,none⟩) (l.length+m.length) c):=by
   have hlen:(l++m).length=l.length+m.length:=ni
   have O:=eZ.slice (F:=iX F b us.length us) (G:=ρ'.G) (n:=ρ'.n) (tag:=.gY) (l:=l++m) (b:=b) (o:=0) (base:=some ⟨b,0,none⟩) (cap:=c) (sz:=sz)
    (s.grow z.g) (uG F b us) (λ_=>rfl) J I VW hc (.inl rfl)
   rw[hlen] at O;rw[<-hlen];refine .cell (.loc (by rw[hlen];exact O) (by show _<=eO ρ.ag d (fr.dv d+1) d;simp[eO]) ?_);unfold ry
   have e:ρ'.A d (fr.dv d+1)=some (b,c,sz):=by show qM ρ.A d (fr.dv d+1) (some (b,c,sz)) d (fr.dv d+1)=_;simp[qM]
   rw[e];exact⟨rfl,rfl,J⟩
  have X:=(M.env.grow B).put (d:=some d) (by intro P he;injection he with he;subst he;rw[h.size];exact hd) N;exact X
 ·intro k;show eO ρ.ag d (fr.dv d+1) k=eO fr.dv d (fr.dv d+1) k;unfold eO
  split
  ·rfl
  ·exact h.ag k
 ·intro P cs Y;obtain⟨X,h2,h3,vs',Z,h4,h5⟩:=M.box P cs Y;exact⟨X,by rw[q _ (by show R (ρ.L P (fr.gen P))≠_;rw[h2];simp)];exact h2,h3,vs',Z,h4,h5.mono λ_ _ _ h=>h.grow B⟩
 ·intro k m' r f c' aa C;simp only[grown,eO] at r
  by_cases u:k=d
  ·subst u;simp only[if_true,uq] at r;subst r
   have Q:(grown fr k tag l m).dv k=fr.dv k+1:=by simp[grown,eO]
   rw[Q] at C
   have D:ρ'.A k (fr.dv k+1)=some (b,c,sz):=by show qM ρ.A k (fr.dv k+1) (some (b,c,sz)) k (fr.dv k+1)=_;simp[qM]
   rw[D] at C;injection C with C;injection C with Q D;injection D with D e3;subst Q;subst D;subst e3;refine⟨hb,by show eO R b (.arr k) b=.arr k;simp[eO],⟨W,hp⟩,hc,⟨vs,ty,U,V,y⟩,λj hj=>?_⟩;show(if b=b/\j<us.length then us[j]?else F b j)=none;rw[bV VW];exact hF j
  ·simp only[bV u] at r
   have Q:(grown fr d tag l m).dv k=fr.dv k:=by simp[grown,eO,u]
   rw[Q] at C
   have D:ρ'.A k (fr.dv k)=ρ.A k (fr.dv k):=by show qM ρ.A d (fr.dv d+1) _ k (fr.dv k)=_;simp[qM,u]
   rw[D] at C
   have ab:fr.r_ k=some m':=by
    unfold sW at r
    split at r
    ·simp only[eO] at r
     split at r
     ·cases r
     ·exact r
    ·exact r
   obtain⟨e3,e4,e5,ad,e6,e7⟩:=M.tok k m' ab f c' aa C;exact⟨e3,by rw[q _ (by rw[e4];simp)];exact e4,e5,ad,e6,e7⟩
 ·intro f j v hf
  by_cases i:f=b
  ·subst i;intro P;show eO R f (.arr d) f≠_;simp[eO]
  ·have e:K f=R f:=by show eO R b (.arr d) f=R f;simp[eO,i]
   rw[e];exact M.oV f j v hf
 ·intro o ho;have:=h.mL o ho;rw[q _ (by show R (ρ.G o)≠_;rw[this];simp)];exact this
 ·intro f i
  have S:f≠b:=by rintro rfl;have:=oB U;omega
  show eO R b (.arr d) f=.free;simp only[eO,bV S];exact h.ki f i
end
section
variable{P:Program} {T:cV} {n:Nat} {G0:Nat->Nat} {F0:js} {n0:Nat} {w0:World} {fr:Fr} {H:cc} {a:Act} {w:World}
def CH(w:World){t e:TypeId}{sz:Nat}(n:nS P t=some (e,sz))(ty:TypeId)(base:Option Addr)(a d:Nat)(f:List Value)(holds:f.length=a*sz)
  (B:base=none->a=0/\d=0) (C:∀k,base=some k->∀j v,f[j]?=some v->w.cell? (k.add j)=some v)
  (k:Addr) (m c:Nat) (news:List Value) (p:news.length=m*sz) (hn:∀j v,news[j]?=some v->w.cell? (k.add j)=some v) (l:d<a+m) (o:a+m<=hS):∃cap rest,a+m<=cap/\cap<=maxLen/\(∀u∈rest,u.oneCell'=true)/\(f++news++rest).length=cap*sz/\(Builtin.append_ #[t,t] ty #[.slice base a d,.slice (some k) m c]).run P w=.ok (.slice (some ⟨w.heap.size,0,none⟩) (a+m) cap) (w.drew.alloc (.cells (f++news++rest).toArray e)):=by
 obtain⟨i,z,hu,hi,q,r,s,x,A⟩:=lQ n;subst s;have h:a+m<=1099511627776:=o
 have g:(a+m)*i.bytes<=140737488355328:=by
  have:=D2 h x;omega
 have Ak:a+m<=maxLen:=by simp only[maxLen];omega
 have y:=grownCap_ge w (a+m) d e;have hle:=grownCap_le_maxLen w (a+m) d e Ak;refine⟨grownCap w (a+m) d e,(Builtin.zeroCells z.cells (grownCap w (a+m) d e-(a+m))).toList,y,hle,uY (Kr n hi q) VW _,?_,?_⟩
 ·simp only[ni,Mq,size_zeroCells,r,holds,p,<-yj]
  congr 1
  omega
 ·have D:(f++news++(Builtin.zeroCells z.cells (grownCap w (a+m) d e-(a+m))).toList).toArray=f.toArray++news.toArray++Builtin.zeroCells z.cells (grownCap w (a+m) d e-(a+m)):=by
   apply Bz.1;simp
  rw[D];cases base with
  |some b=>
   exact run_append_grow w t ty e i z hu hi q b a d f holds (C b rfl) k m c news p hn l VW (growslice_fits l g)
  |none=>
   obtain⟨rfl,rfl⟩:=B rfl;have:f=[]:=zI (by simpa using holds);subst this;simp only[tu] at l g h|-;have:=run_append_nil (P:=P) w t ty e i z hu hi q k m c news p hn VW VW VW;simpa using this
structure NY (P:Program) (w:World) (t u e:TypeId) (sz k:Nat) (x:Value) (news:List Value) (ty:TypeId):Prop where
 none:k=0->∀(base:Option Addr) (len cap:Nat),len<=cap->(Builtin.append_ #[t,u] ty #[.slice base len cap,x]).run P w=.ok (.slice base len cap) w
 room:0<k->∀(g sLen sCap:Nat) (cur:Array Value) (e':TypeId),w.heap[g]?=some (.cells cur e' (0,0))->sLen+k<=sCap->sLen*sz+news.length<=cur.size->(Builtin.append_ #[t,u] ty #[.slice (some ⟨g,0,.none⟩) sLen sCap,x]).run P w=.ok (.slice (some ⟨g,0,.none⟩) (sLen+k) sCap) (w.setRow g (cur.toList.take (sLen*sz)++news++cur.toList.drop (sLen*sz+news.length)).toArray)
 grow:0<k->∀(base:Option Addr) (sLen sCap:Nat) (olds:List Value),olds.length=sLen*sz->(base=.none->sLen=0/\sCap=0)->(∀ad,base=some ad->∀j v,olds[j]?=some v->w.cell? (ad.add j)=some v)->sCap<sLen+k->sLen+k<=hS->∃cap rest,sLen+k<=cap/\cap<=maxLen/\(∀u∈rest,u.oneCell'=true)/\(olds++news++rest).length=cap*sz/\(Builtin.append_ #[t,u] ty #[.slice base sLen sCap,x]).run P w=.ok (.slice (some ⟨w.heap.size,0,.none⟩) (sLen+k) cap) (w.drew.alloc (.cells (olds++news++rest).toArray e))
def DP{ρ:Maps}{F:js}{R:Nat->mP}(h:WR T n w0.heap.size ρ F R fr H a w)(hx:Ext w0.heap.size G0 F0 n0 w0 ρ.G F H.length w){d:Nat}{t u e ty:TypeId}{sz:Nat}{K:Fr->cc->Prop}{tag:Tag}{l m:List AV}{sv xv:Value}{B:List Value}
  (aD:nS P t=some (e,sz)) (aE:eJ F ρ (.slice tag l) sv) (aF:jm sz l=true) (src:NY P w t u e sz m.length xv B ty) (r:ft F ρ.G ρ.n (m.flatMap AV.cells) B) (s:∀y∈m.flatMap AV.cells,y.ej=true)
  (M:∀y∈m,y.cells.length=sz) (ak:l.length+m.length<=hS) (N:d<n)
  (hK:if nO fr tag l then K (grown fr d tag l m) H else m=[]/\K (fr.put (some d) (.slice .gY l)) H):∃v w' fr' H',(Builtin.append_ #[t,u] ty #[sv,xv]).run P w=.ok v w'/\K fr' H'/\SR T n G0 F0 n0 w0 fr' H' (a.put (some d) v) w':=by
 obtain⟨base,cap,b,o,aT,vs,aG,f,ae,an⟩:=lX aE;rw[aG];obtain⟨i,z,hu,hi,hz,aU,aV,aW,aR⟩:=lQ aD;have C:=pN aF f.sz;have D:eZ F ρ.G ρ.n (.slice .gY l) (.slice base l.length cap):=.slice f.cells f.has f.base C f.qu f.yd f.Ak (.inl rfl)
 split at hK
 ·rename_i J
  have O:tag=.full/\cap=l.length\/∃k g,tag=.loc k g/\g=fr.dv k/\fr.r_ k=some l.length/\ry ρ k g l base cap:=by
   unfold nO at J
   split at J
   ·cases J
   ·exact .inl ⟨rfl,ae rfl⟩
   ·rename_i k g;simp only[eg,Uk] at J;exact .inr ⟨k,g,rfl,J.1,J.2,(an k g rfl).2⟩
  by_cases hm:m=[]
  ·subst hm;obtain⟨ρ',R',hG,_,_,_,hw⟩:=h.rename N D O;refine⟨_,_,_,_,src.none rfl _ _ _ f.yd,hK,ρ',F,R',?_,by rw[hG];exact hx⟩;exact hw
  ·have Q:B.length=m.length*sz:=by rw[<-r.length,mI M]
   have I:vs.length=l.length*sz:=by rw[<-f.cells.length,mI C]
   have S:0<m.length:=O5.2 hm
   by_cases E:l.length+m.length<=cap
   ·--in place
    rcases O with⟨rfl,hc⟩|⟨k,g,rfl,hg,ht,Y⟩
    ·omega
    ·have L:=Y;unfold ry at L;cases W:ρ.A k g with
     |none=>rw[W] at L;simp only at L;omega
     |some p=>
      obtain⟨b3,c3,x⟩:=p;rw[W] at L;simp only at L;obtain⟨rfl,rfl,aH⟩:=L;rw[hg] at W;obtain⟨t1,t2,t3,aX,⟨cur,aI,t4,t5,aY⟩,t6⟩:=h.tok k _ ht b3 cap x W;have af:∀u∈B,u.oneCell'=true:=ia (r.sy.mono λ_ _ _ h=>ir.p h) s
      have Z:l≠[]:=by rintro rfl;exact absurd t3.1 aas
      have ao:x=sz:=by
       cases l with
       |nil=>exact absurd rfl Z|cons y ys=>rw[<-aH y aas,C y aas]
      subst ao;obtain⟨ρ',R',hG,aq,ar,aw,hw⟩:=h.rename N D (tag:=.loc k g) (.inr ⟨k,g,rfl,hg,ht,Y⟩)
      have ah:ρ'.A d ((grown fr d (.loc k g) l []).dv d)=some (b3,cap,x):=by
       have e:(grown fr d (.loc k g) l []).dv d=fr.dv d+1:=by simp[grown,eO]
       rw[e,ar k g rfl,hg];exact W
      have ax:(grown fr d (.loc k g) l []).r_ d=some l.length:=by simp[grown,eO]
      obtain⟨F',ay,X,az,aJ⟩:=hw.extend ax ah Q E af t4
      have aK:b=b3/\o=0:=by
       have:=f.base Z;injection this with this;injection this with e1 e2;exact⟨e1.symm,e2.symm⟩
      obtain⟨rfl,rfl⟩:=aK
      have U:=src.room S b l.length cap cur aI t4 E (by
       rw[Q,<-yj,t5];exact Cb _ E)
      have aA:eJ F' ρ' (.slice (.loc d (fr.dv d+1)) (l++m)) (.slice (some ⟨b,0,none⟩) (l.length+m.length) cap):=by
       have hlen:(l++m).length=l.length+m.length:=ni
       have aB:F'.has b 0 (vs++B):=by
        intro q v V;rcases sA q vs.length with hq|hq
        ·rw[oy hq] at V;exact ay.g.mF _ _ _ (f.has q v V)
        ·rw[qU hq] at V;have:=az _ v V;rw[I] at hq this;rw[show l.length*x+(q-l.length*x)=0+q by omega] at this;exact this
       have aa:∀y∈l++m,y.cells.length=x:=by
        intro y hy;rcases qO.1 hy with hy|hy
        ·exact C y hy
        ·exact M y hy
       have aL:=eZ.slice (F:=F') (G:=ρ'.G) (n:=ρ'.n) (tag:=.gY) (l:=l++m) (b:=b) (o:=0) (base:=some ⟨b,0,none⟩) (cap:=cap) (sz:=x) (vs:=vs++B)
        (by
         rw[Sl,hG,aq];have aC:=ay.g;rw[hG,aq] at aC
         exact(f.cells.append r).grow aC) aB (λ_=>rfl) aa (by
         intro y hy;rw[Sl] at hy;rcases qO.1 hy with hy|hy
         ·exact f.qu y hy
         ·exact s y hy) VW f.Ak (.inl rfl)
       rw[<-hlen];refine .cell (.loc aL (by rw[aw];exact fT _) ?_);unfold ry
       have e:ρ'.A d (fr.dv d+1)=some (b,cap,x):=by rw[ar k g rfl,hg];exact W
       rw[e];exact⟨rfl,rfl,aa⟩
      have ab:=aJ.put (d:=some d) (λ_ hh=>by cases hh;exact N) aA;refine⟨_,_,_,_,U,hK,ρ',F',R',?_,?_⟩
      ·have e1:({(grown fr d (.loc k g) l [])with r_:=eO (grown fr d (.loc k g) l []).r_ d (some (l.length+m.length))}:Fr).put (some d) (.slice (.loc d (fr.dv d+1)) (l++m))=grown fr d (.loc k g) l m:=by
        simp only[grown,Fr.put,JW]
       have e2:(a.put (some d) (.slice (some ⟨b,0,none⟩) l.length cap)).put (some d) (.slice (some ⟨b,0,none⟩) (l.length+m.length) cap)=a.put (some d) (.slice (some ⟨b,0,none⟩) (l.length+m.length) cap):=by
        simp[Act.put]
       rw[e1,e2] at ab;exact ab
      ·rw[hG];exact(hx.setRow (.inl t1) _).freeze λb' j aM=>X b' j VW
   ·--a new row
    have aN:base=none->l.length=0/\cap=0:=by
     rintro rfl
     have ai:l=[]:=by
      rcases XO l with h'|⟨_,_,h'⟩
      ·exact h'
      ·have:=f.base (by rw[h'];simp);cases this
     subst ai;refine⟨rfl,?_⟩;rcases O with⟨_,hc⟩|⟨k,g,rfl,hg,ht,Y⟩
     ·simpa using hc
     ·unfold ry at Y;cases W:ρ.A k g with
      |none=>rw[W] at Y;simpa using Y
      |some p=>
       obtain⟨b3,c3,x⟩:=p;rw[W] at Y;cases Y.1
    have aO:∀ad,base=some ad->∀(j:Nat) (v:Value),vs[j]?=some v->w.cell? (ad.add j)=some v:=by
     intro ad aP j v V
     have ai:l≠[]:=by
      rintro rfl;have:vs=[]:=zI (by rw[I];simp);subst this;simp at V
     have:=f.base ai;rw[aP] at this;injection this with this;subst this;rw[Addr.add_lit];exact h.g.Fz b _ v (f.has j v V)
    obtain⟨c',rest,r1,r2,r0,r3,U⟩:=src.grow S base l.length cap vs I aN aO VW ak;have aQ:=h.drew.alloc (.cells (vs++B++rest).toArray e);have aS:w.drew.heap.size=w.heap.size:=rfl
    obtain⟨ρ',R',hG,hw⟩:=aQ.SM (b:=w.heap.size) (us:=vs++B) (c:=c') (sz:=sz) (tag:=tag) (l:=l) (m:=m) N h.oY (h.ki _ (fT _)) (λj=>h.g.fresh _ j (fT _))
     (heap_alloc_new w.drew _) (by
      intro u hu;simp only[qO] at hu;rcases hu with(hu|hu)|hu
      ·exact ia (f.cells.sy.mono λ_ _ _ h=>ir.p h) f.qu u hu
      ·exact ia (r.sy.mono λ_ _ _ h=>ir.p h) s u hu
      ·exact r0 u hu) (by simpa using r3) VW r1 r2 (by rw[ni,I,Q,yj]) (by
      intro j v V;have hj:=(jj.1 V).1;simp only[ZY];rw[oy hj]
      exact V) (by rw[Sl];exact f.cells.append r) (by
      intro y hy;rw[Sl] at hy;rcases qO.1 hy with hy|hy
      ·exact f.qu y hy
      ·exact s y hy) (by
      intro y hy;rcases qO.1 hy with hy|hy
      ·exact C y hy
      ·exact M y hy)
    refine⟨_,_,_,_,U,hK,ρ',_,R',hw,?_⟩;rw[hG];exact((hx.drew.alloc h.oY _).freeze λb' j aM=>rO (by have:=h.oY;omega))
 ·obtain⟨rfl,hK⟩:=hK;refine⟨_,_,_,_,src.none rfl _ _ _ f.yd,hK,ρ,F,R,?_,hx⟩;exact h.put (λ_ hh=>by cases hh;exact N) (.p D)
def Jy{t e:TypeId}{sz:Nat}(f:nS P t=some (e,sz))(ty:TypeId){base:Option Addr}{m cap b o:Nat}{news:List Value}(y:0<m->base=some ⟨b,o,none⟩)(A:news.length=m*sz)
  (hn:∀j v,news[j]?=some v->w.cell? ((⟨b,o,none⟩:Addr).add j)=some v) (C:∀u∈news,u.oneCell'=true):NY P w t t e sz m (.slice base m cap) news ty where
 none D a len k E:=Ed w f ty a len k E _ ⟨base,cap,by rw[D]⟩
 room q g c d cur F hg h l:=by
  obtain⟨i,z,hu,hi,J,G,r,H,B⟩:=lQ f;subst r;rw[y q];exact we (P:=P) w t ty e F i hu hi g c d cur hg ⟨b,o,.none⟩ m cap news A hn C h l
 grow q a c d n holds s I x p:=by
  rw[y q];exact CH w f ty a c d n holds s I ⟨b,o,.none⟩ m cap news A hn x p
def I4{ρ:Maps}{F:js}{R:Nat->mP}(h:WR T n w0.heap.size ρ F R fr H a w)(O:Ext w0.heap.size G0 F0 n0 w0 ρ.G F H.length w){c:Call}{dst:Option Nat}{ty:TypeId}{K:Fr->cc->Prop}
  (k:lD P T c dst K fr H) (Q:∀d,dst=some d->d<n) (r:∀x∈c.args.toList,gW x=true):∃v w' fr' H',(Builtin.append_ c.argTypes ty (c.args.map a.eval)).run P w=.ok v w'/\K fr' H'/\SR T n G0 F0 n0 w0 fr' H' (a.put dst v) w':=by
 unfold lD at k
 split at k
 ·rename_i d s x t S i u;have C:=Q d rfl;have U:c.argTypes=#[t,S]:=Bz.1 (by rw[u]);have V:c.args.map a.eval=#[a.eval s,a.eval x]:=Bz.1 (by rw[KP,i];rfl);rw[U,V];have y:=eF h.env h.fM s (r s (by rw[i];simp));have z:=eF h.env h.fM x (r x (by rw[i];simp))
  split at k
  ·rename_i e sz tag l tag' m A hs D;obtain⟨rfl,E,I,B,k⟩:=k;rw[hs] at y;rw[D] at z;obtain⟨J,M,N,o2,W,X,L,f,_,_⟩:=lX z;have q:=pN I f.sz;rw[L]
   exact DP h O A y E (Jy A ty (b:=N) (o:=o2) (λY=>f.base (O5.1 Y)) (by rw[<-f.cells.length,mI q]) (λj v Z=>by
    rw[Addr.add_lit]
    exact h.g.Fz N _ v (f.has j v Z)) (ia (f.cells.sy.mono λ_ _ _ h=>ir.p h) f.qu)) f.cells f.qu q B C k
  ·exact k.elim
 ·exact k.elim
def nP(s:ByteArray):List AV:=s.data.toList.map λb=>AV.sc (.int .u8 (b.toNat:Int))
def BN(P:Program)(T:cV)(c:Call)(dst:Option Nat)(K:Fr->cc->Prop)(fr:Fr)(H:cc):Prop:=
 match dst,c.args.toList,c.argTypes.toList with
 |some d,[s,x],[t,a]=>
  match nS P t,P.underlying a,ev T fr s,ev T fr x with
  |some (_,sz),some .string,.slice tag l,.sc (.string y)=>
   sz=1/\jm 1 l=true/\l.length+y.size<=hS/\(if nO fr tag l then K (grown fr d tag l (nP y)) H else nP y=[]/\K (fr.put (some d) (.slice .gY l)) H)
  |_,_,_,_=>False
 |_,_,_=>False
def NU{t u e:TypeId}(j:nS P t=some (e,1))(d:P.underlying u=some .string)(ty:TypeId)(s:ByteArray):NY P w t u e 1 s.size (.string s) (Lib.strCells s) ty where
 none q base len cap C:=by
  obtain⟨i,z,hu,hi,r,m,k,n,l⟩:=lQ j;have v:=Lib.run_firstCells_string (P:=P) w i.size s;have hn:Lib.strCells s=[]:=zI (by rw[Lib.strCells_length];exact q);rw[q,hn] at v;cases base with
  |none=>simp[Builtin.append_,run_underlying hu,run_underlying d,sizeOf,typeInfo,hi,Builtin.lenOf,q,C,v]|some K=>simp[Builtin.append_,run_underlying hu,run_underlying d,sizeOf,typeInfo,hi,Builtin.lenOf,q,C,v,storeCells]
 room E g a c cur F hg o x:=by
  obtain⟨i,z,hu,hi,r,m,k,n,l⟩:=lQ j;have v:=Lib.run_firstCells_string (P:=P) w 1 s;have y:=run_storeCells_at P g (a*1) F (Lib.strCells s) 0 cur w hg (by simpa using x) (Lib.strCells_oneCell s);simp only[Ec,U3] at y;simp[Builtin.append_,run_underlying hu,run_underlying d,sizeOf,typeInfo,hi,k,Builtin.lenOf,o,v,Addr.add_lit,y]
 grow E base a c f holds G H A B:=by
  obtain⟨i,z,hu,hi,r,m,k,n,l⟩:=lQ j;have p:a+s.size<=1099511627776:=B
  have h:(a+s.size)*i.bytes<=140737488355328:=by
   have:=D2 p n;omega
  have Ak:a+s.size<=maxLen:=by simp only[maxLen];omega
  refine⟨grownCap w (a+s.size) c e,(Builtin.zeroCells z.cells (grownCap w (a+s.size) c e-(a+s.size))).toList,grownCap_ge w (a+s.size) c e,grownCap_le_maxLen w (a+s.size) c e Ak,uY (Kr j hi r) VW _,?_,?_⟩
  ·have:=grownCap_ge w (a+s.size) c e;simp only[ni,Mq,size_zeroCells,m,holds,Lib.strCells_length];omega
  ·have I:(f++Lib.strCells s++(Builtin.zeroCells z.cells (grownCap w (a+s.size) c e-(a+s.size))).toList).toArray=f.toArray++(Lib.strCells s).toArray++Builtin.zeroCells z.cells (grownCap w (a+s.size) c e-(a+s.size)):=by
    apply Bz.1;simp
   rw[I];cases base with
   |some b=>exact Lib.run_append_grow_string w t u ty e i z hu d hi r b a c f (by rw[k];exact holds) (H b rfl) s A VW (growslice_fits A h)|none=>
    obtain⟨rfl,rfl⟩:=G rfl;have q:f=[]:=zI (by simpa using holds);subst q;have D:=run_append_nil_string (P:=P) w t u ty e i z hu d hi r s VW VW (by rw[tu] at h;omega)
    have J:(s.data.map λb=>Value.int .u8 b.toNat)=(Lib.strCells s).toArray:=by
     apply Array.ext';simp[Lib.strCells]
    rw[J] at D;simpa using D
def zZ(s:ByteArray):(nP s).flatMap AV.cells=(Lib.strCells s).map AV.sc:=by
 unfold nP Lib.strCells
 induction s.data.toList with
 |nil=>rfl|cons b l a=>simp only[k_,xS,a];rfl
def tF{F:js}{G:Nat->Nat}{k:Nat}:∀(L:List Value),(∀v∈L,xi v=true)->ft F G k (L.map AV.sc) L
 |[],_=>.nil|v::L,h=>.cons (.sc (h v aas)) (tF L λx a=>h x (by simp[a]))
def GR{ρ:Maps}{F:js}{R:Nat->mP}(h:WR T n w0.heap.size ρ F R fr H a w)(B:Ext w0.heap.size G0 F0 n0 w0 ρ.G F H.length w){c:Call}{dst:Option Nat}{ty:TypeId}{K:Fr->cc->Prop}
  (g:BN P T c dst K fr H) (C:∀d,dst=some d->d<n) (i:∀x∈c.args.toList,gW x=true):∃v w' fr' H',(Builtin.append_ c.argTypes ty (c.args.map a.eval)).run P w=.ok v w'/\K fr' H'/\SR T n G0 F0 n0 w0 fr' H' (a.put dst v) w':=by
 unfold BN at g
 split at g
 ·rename_i d s x t D f j;have u:=C d rfl;have E:c.argTypes=#[t,D]:=Bz.1 (by rw[j]);have I:c.args.map a.eval=#[a.eval s,a.eval x]:=Bz.1 (by rw[KP,f];rfl);rw[E,I];have k:=eF h.env h.fM s (i s (by rw[f];simp));have m:=eF h.env h.fM x (i x (by rw[f];simp))
  split at g
  ·rename_i e sz tag l y o p hs z;obtain⟨rfl,A,q,g⟩:=g;rw[hs] at k;rw[z] at m;rw[eb m]
   have hlen:(nP y).length=y.size:=by simp[nP]
   have J:ft F ρ.G ρ.n ((nP y).flatMap AV.cells) (Lib.strCells y):=by
    rw[zZ];refine tF _ λv L=>?_;obtain⟨b,_,rfl⟩:=ll.1 L;rfl
   have M:∀c∈(nP y).flatMap AV.cells,c.ej=true:=λc r=>by
    rw[zZ] at r;obtain⟨v,_,rfl⟩:=ll.1 r;rfl
   have c3:∀c∈nP y,c.cells.length=1:=λc r=>by
    obtain⟨b,_,rfl⟩:=ll.1 r;rfl
   exact DP h B o k A (by rw[hlen];exact NU o p ty y) J M c3 (by rw[hlen];exact q) u g
  ·exact g.elim
 ·exact g.elim
end
end Go.jN
namespace Go.jN
open Go
def fY(P:Program)(t:TypeId):Option (List AV):=
 match zeroOf P t with
 |some z=>if rL z=true/\dn (ofValue z) then some (ofValue z).cells else none|none=>none
def IM{P:Program}{t:TypeId}{cs:List AV}(h:fY P t=some cs):∃z,zeroOf P t=some z/\rL z=true/\dn (ofValue z)=true/\cs=(ofValue z).cells:=by
 unfold fY at h
 split at h
 ·rename_i z b
  split at h
  ·rename_i a;injection h with h;exact⟨z,b,a.1,a.2,h.symm⟩
  ·cases h
 ·cases h
def w9(fr:Fr)(d:Nat)(cells:List AV)(len cap:Nat):Fr:=
 {fr with env:=eO fr.env d (.um d (fr.gen d+1) len cap),box:=eO fr.box d (some cells),gen:=eO fr.gen d (fr.gen d+1)}
def qj(n:Nat):List AV:=List.replicate n .undef
def Bv(P:Program)(T:cV)(c:Call)(dst:Option Nat)(K:Fr->cc->Prop)(fr:Fr)(H:cc):Prop:=
 match dst,c.args.toList,c.argTypes.toList with
 |some d,[s,x],[t,f]=>
  match nS P t,ev T fr x with
  |some (e,sz),.slice _ m=>
   f=t/\jm sz m=true/\(fY P e).isSome=true/\0<m.length/\match ev T fr s with
   |.slice .full l=>jm sz l=true/\l.length+m.length<=hS/\∀cap,l.length+m.length<=cap->K (w9 fr d (l.flatMap AV.cells++m.flatMap AV.cells++qj ((cap-(l.length+m.length))*sz)) (l.length+m.length) cap) H|.um b g len cap=>g=fr.gen b/\len+m.length<=hS/\match fr.box b with
    |some cs=>cs.length=cap*sz/\(len+m.length<=cap->K {fr with env:=eO fr.env d (.um b g (len+m.length) cap),box:=eO fr.box b (some (setCells cs (len*sz) (m.flatMap AV.cells)))} H)/\(∀a,cap<len+m.length->len+m.length<=a->K (w9 fr d (cs.take (len*sz)++m.flatMap AV.cells++qj ((a-(len+m.length))*sz)) (len+m.length) a) H)|none=>False
   |_=>False
  |_,_=>False
 |_,_,_=>False
section
variable{P:Program} {T:cV} {n:Nat} {G0:Nat->Nat} {F0:js} {n0:Nat} {w0:World} {fr:Fr} {H:cc} {a:Act} {w:World}
def Km{e:TypeId}(h:(fY P e).isSome=true){i:TypeInfo}{z:Value}(hi:P.info? e=some i)(c:i.zero=some z):∀u∈z.cells.toList,u.oneCell'=true:=by
 cases b:fY P e with
 |none=>rw[b] at h;cases h
 |some cs=>
  obtain⟨d,a,f,g,_⟩:=IM b
  have:d=z:=by
   unfold zeroOf at a;rw[hi] at a;simp only[Xa,c] at a;exact(fS a).symm
  subst this;exact(zX f (λvs j=>by subst j;simp[ofValue,dn] at g)).2
def mu(w:World){t e:TypeId}{sz:Nat}(o:nS P t=some (e,sz))(p:(fY P e).isSome=true)(ty:TypeId)(base:Option Addr)(a d:Nat)(f:List Value)(holds:f.length=a*sz)
  (C:base=none->a=0/\d=0) (D:∀k,base=some k->∀j v,f[j]?=some v->w.cell? (k.add j)=some v)
  (k:Addr) (m c:Nat) (news:List Value) (A:news.length=m*sz) (hn:∀j v,news[j]?=some v->w.cell? (k.add j)=some v) (l:d<a+m) (n:a+m<=hS):∃cap rest,a+m<=cap/\cap<=maxLen/\rest.length=(cap-(a+m))*sz/\(∀u∈rest,u.oneCell'=true)/\(Builtin.append_ #[t,t] ty #[.slice base a d,.slice (some k) m c]).run P w=.ok (.slice (some ⟨w.heap.size,0,none⟩) (a+m) cap) (w.drew.alloc (.cells (f++news++rest).toArray e)):=by
 obtain⟨i,z,hu,hi,q,r,s,x,B⟩:=lQ o;subst s;have h:a+m<=1099511627776:=n
 have g:(a+m)*i.bytes<=140737488355328:=by
  have:=D2 h x;omega
 have Ak:a+m<=maxLen:=by simp only[maxLen];omega
 have y:=grownCap_ge w (a+m) d e;have hle:=grownCap_le_maxLen w (a+m) d e Ak;refine⟨grownCap w (a+m) d e,(Builtin.zeroCells z.cells (grownCap w (a+m) d e-(a+m))).toList,y,hle,?_,uY (Km p hi q) VW _,?_⟩
 ·simp only[Mq,size_zeroCells,r]
 ·have E:(f++news++(Builtin.zeroCells z.cells (grownCap w (a+m) d e-(a+m))).toList).toArray=f.toArray++news.toArray++Builtin.zeroCells z.cells (grownCap w (a+m) d e-(a+m)):=by
   apply Bz.1;simp
  rw[E];cases base with
  |some b=>
   exact run_append_grow w t ty e i z hu hi q b a d f holds (D b rfl) k m c news A hn l VW (growslice_fits l g)
  |none=>
   obtain⟨rfl,rfl⟩:=C rfl;have:f=[]:=zI (by simpa using holds);subst this;simp only[tu] at l g h|-;have:=run_append_nil (P:=P) w t ty e i z hu hi q k m c news A hn VW VW VW;simpa using this
def Ga{F:js}{ρ:Maps}:∀{rest:List Value} {k:Nat},rest.length=k->(∀u∈rest,u.oneCell'=true)->fi (ir F ρ) (qj k) rest
 |[],k,h,_=>by cases h;exact .nil
 |u::rest,k,h,a=>by
  cases h;show fi _ (List.replicate (rest.length+1) AV.undef) _;rw[RO];exact .cons (.p (.undef (a u aas))) (Ga rfl λv b=>a v (by simp[b]))
def wv(k:Nat):∀c∈qj k,c.ej=true:=by
 intro c a;rw[List.eq_of_mem_replicate a];rfl
def WR.R5{ρ:Maps}{F:js}{R:Nat->mP}(h:WR T n w0.heap.size ρ F R fr H a w)(p:Ext w0.heap.size G0 F0 n0 w0 ρ.G F H.length w){d len cap:Nat}(k:d<n){cells:List AV}{vs:Array Value}(ty:TypeId)
  (l:fi (ir F ρ) cells vs.toList) (f:∀c∈cells,c.ej=true) (hlen:len<=cap) (yd:cap<=maxLen):SR T n G0 F0 n0 w0 (w9 fr d cells len cap) H (a.put (some d) (.slice (some ⟨w.heap.size,0,none⟩) len cap)) (w.drew.alloc (.cells vs ty)):=by
 have q:=h.drew.alloc (.cells vs ty);have i:(w.drew.alloc (.cells vs ty)).heap[w.drew.heap.size]?=some (.cells vs ty (0,0)):=heap_alloc_new w.drew _;have r:w.drew.heap.size=w.heap.size:=rfl;have e:R w.drew.heap.size=.free:=h.ki _ (fT _);have hF:∀j,F w.drew.heap.size j=none:=λj=>h.g.fresh _ j (fT _);obtain⟨ρ',s,hG,hw⟩:=q.Vl h.oY e hF i l f k;have t:=hw.box d cells (by simp[eO])
 have u:ρ'.L d (fr.gen d+1)=w.heap.size:=by
  have he:=hw.env d
  have m:({fr with env:=eO fr.env d (.gx d (fr.gen d+1) 0),box:=eO fr.box d (some cells),gen:=eO fr.gen d (fr.gen d+1)}:Fr).env d=.gx d (fr.gen d+1) 0:=by simp[eO]
  rw[m,Lg a (some d) _ d (by intro y he;injection he with he;subst he;rw[h.size];exact k),bX rfl] at he;have:=(sY he).1;injection this with this;injection this with this;injection this with this;exact this.symm
 have o:fr.gen d+1<=ρ'.lg d:=by
  rw[hw.lg d];simp[eO]
 have nb:=hw.put (d:=some d) (by intro y he;injection he with he;subst he;exact k) (x:=.um d (fr.gen d+1) len cap) (v:=.slice (some ⟨w.heap.size,0,none⟩) len cap) (by
  have:=ir.um (F:=F) (ρ:=ρ') (b:=d) (g:=fr.gen d+1) o hlen yd;rw[u] at this
  exact .cell this)
 refine⟨ρ',F,s,?_,?_⟩
 ·have m:(({fr with env:=eO fr.env d (.gx d (fr.gen d+1) 0),box:=eO fr.box d (some cells),gen:=eO fr.gen d (fr.gen d+1)}:Fr).put (some d) (.um d (fr.gen d+1) len cap))=w9 fr d cells len cap:=by
   simp only[w9,Fr.put,JW]
  have z:(a.put (some d) (.pointer (some ⟨w.heap.size,0,none⟩))).put (some d) (.slice (some ⟨w.heap.size,0,none⟩) len cap)=a.put (some d) (.slice (some ⟨w.heap.size,0,none⟩) len cap):=by
   simp[Act.put]
  rw[m,z] at nb;exact nb
 ·rw[hG];exact(p.drew).alloc h.oY _
def Hs{ρ:Maps}{F:js}{R:Nat->mP}(h:WR T n w0.heap.size ρ F R fr H a w)(hx:Ext w0.heap.size G0 F0 n0 w0 ρ.G F H.length w){c:Call}{dst:Option Nat}{ty:TypeId}{K:Fr->cc->Prop}
  (y:Bv P T c dst K fr H) (hd:∀d,dst=some d->d<n) (an:∀x∈c.args.toList,gW x=true):∃v w' fr' H',(Builtin.append_ c.argTypes ty (c.args.map a.eval)).run P w=.ok v w'/\K fr' H'/\SR T n G0 F0 n0 w0 fr' H' (a.put dst v) w':=by
 unfold Bv at y
 split at y
 ·rename_i d s x t t' A ao;have V:=hd d rfl;have e1:c.argTypes=#[t,t']:=Bz.1 (by rw[ao]);have e2:c.args.map a.eval=#[a.eval s,a.eval x]:=Bz.1 (by rw[KP,A];rfl);rw[e1,e2];have Q:=eF h.env h.fM s (an s (by rw[A];simp));have aq:=eF h.env h.fM x (an x (by rw[A];simp))
  split at y
  ·rename_i e sz tag' m W aC;obtain⟨rfl,aD,ar,X,y⟩:=y;rw[aC] at aq;obtain⟨aE,D,b2,o2,aT,k,aF,f,_,_⟩:=lX aq;have hm:m≠[]:=O5.1 X;have aw:=pN aD f.sz;have S:=f.base hm
   have B:∀j v,k[j]?=some v->w.cell? ((⟨b2,o2,none⟩:Addr).add j)=some v:=by
    intro j v O;rw[Addr.add_lit];exact h.g.Fz b2 _ v (f.has j v O)
   have E:k.length=m.length*sz:=by rw[<-f.cells.length,mI aw]
   have I:fi (ir F ρ) (m.flatMap AV.cells) k:=f.cells.sy.mono λ_ _ _ h=>.p h;have Y:∀u∈k,u.oneCell'=true:=ia I f.qu;obtain⟨i,z,hu,hi,hz,aU,Z,aV,aQ⟩:=lQ W;rw[aF,S]
   split at y
   ·--a new row
    rename_i l hs;obtain⟨aG,J,y⟩:=y;rw[hs] at Q;obtain⟨base,cap,b,o,aW,vs,aa,C,ab,_⟩:=lX Q;rw[aa];have yd:cap=l.length:=ab rfl;have ax:=pN aG C.sz
    have U:vs.length=l.length*sz:=by rw[<-C.cells.length,mI ax]
    have aH:base=none->l.length=0/\cap=0:=by
     rintro rfl
     have aI:l=[]:=by
      rcases XO l with h'|⟨_,_,h'⟩
      ·exact h'
      ·have:=C.base (by rw[h'];simp);cases this
     subst aI;exact⟨rfl,yd⟩
    have ho:∀ad,base=some ad->∀j v,vs[j]?=some v->w.cell? (ad.add j)=some v:=by
     intro ad ae j v O
     have ay:l≠[]:=by
      rintro rfl;have:vs=[]:=zI (by simpa using U);rw[this] at O;simp at O
     have:=C.base ay;rw[ae] at this;obtain rfl:=fS this;rw[Addr.add_lit];exact h.g.Fz b _ v (C.has j v O)
    obtain⟨M,rest,N,af,ah,ai,q⟩:=mu w W ar ty base l.length cap vs U aH ho ⟨b2,o2,none⟩ m.length D k E B VW J;refine⟨_,_,_,_,q,y M N,h.R5 hx V e ?_ ?_ N af⟩
    ·simp only;exact((C.cells.sy.mono λ_ _ _ h=>ir.p h).append I).append (Ga ah ai)
    ·intro c hc;simp only[qO] at hc;rcases hc with(hc|hc)|hc
     ·exact C.qu c hc
     ·exact f.qu c hc
     ·exact wv _ c hc
   ·--a row of aX az own
    rename_i b g len cap hs;obtain⟨hg,J,y⟩:=y;rw[hs] at Q;obtain⟨aa,aJ,aK,aL⟩:=xY Q;rw[aa]
    split at y
    ·rename_i cs hb;obtain⟨aM,aN,aO⟩:=y;obtain⟨b1,aP,b3,cur,YY,b4,b5⟩:=h.box b cs hb;rw[<-hg] at b1 aP b4
     have aR:cur.size=cap*sz:=by rw[<-aM];simpa using b5.length.symm
     have hle:len*sz<=cap*sz:=Cb _ aK
     by_cases r:len+m.length<=cap
     ·have aS:len*sz+m.length*sz<=cap*sz:=by rw[<-yj];exact Cb _ r
      have q:=we (P:=P) w t' ty e YY i hu hi (ρ.L b g) len cap cur b4 ⟨b2,o2,none⟩ m.length D k (by rw[Z];exact E) B Y r (by rw[Z];omega);rw[Z] at q;have dx:=b5.setCells I (len*sz);have aA:(m.flatMap AV.cells).length=k.length:=I.length
      have ak:∀c∈setCells cs (len*sz) (m.flatMap AV.cells),c.ej=true:=by
       intro c hc;simp only[setCells,qO] at hc;rcases hc with(hm|hm)|hm
       ·exact b3 c (AF hm)
       ·exact f.qu c hm
       ·exact b3 c (Gt hm)
      have aB:=h.R3 hb (vs':=(cur.toList.take (len*sz)++k++cur.toList.drop (len*sz+k.length)).toArray) (by rw[<-aA];simpa[aA] using dx) ak;rw[<-hg] at aB;have nb:=aB.put (d:=some d) (by intro d' he;injection he with he;subst he;exact V) (x:=.um b g (len+m.length) cap) (v:=.slice (some ⟨ρ.L b g,0,none⟩) (len+m.length) cap) (.cell (.um aJ r aL));refine⟨_,_,_,_,q,aN r,ρ,F,R,nb,hx.setRow (.inl b1) _⟩
     ·have ho:∀ad,some (⟨ρ.L b g,0,none⟩:Addr)=some ad->∀j v,(cur.toList.take (len*sz))[j]?=some v->w.cell? (ad.add j)=some v:=by
       intro ad ae j v O;obtain rfl:=fS ae;rw[Addr.add_lit,tu,cell_of_row w _ _ cur YY (0,0) b4];rw[E6] at O
       split at O
       ·simpa using O
       ·cases O
      obtain⟨M,rest,N,af,ah,ai,q⟩:=mu w W ar ty (some ⟨ρ.L b g,0,none⟩) len cap (cur.toList.take (len*sz)) aaQ (by intro h;cases h) ho ⟨b2,o2,none⟩ m.length D k E B VW J;refine⟨_,_,_,_,q,aO M VW N,h.R5 hx V e ?_ ?_ N af⟩
      ·simp only;exact((b5.take _).append I).append (Ga ah ai)
      ·intro c hc;simp only[qO] at hc;rcases hc with(hc|hc)|hc
       ·exact b3 c (AF hc)
       ·exact f.qu c hc
       ·exact wv _ c hc
    ·exact y.elim
   ·exact y.elim
  ·exact y.elim
 ·exact y.elim
end
end Go.jN
namespace Go.jN
open Go Go.MapKept
def LD:TypeDesc->Value->Bool
 |.bool,.bool _=>true|.int k,.int k' _=>k'==k|.string,.string _=>true|_,_=>false
def QP:Value->Value->Bool
 |.bool a,.bool b=>a==b|.int _ a,.int _ b=>a==b|.string a,.string b=>a==b|_,_=>false
def tG{d:TypeDesc}{v:Value}(h:LD d v=true):IsKey d v:=by
 unfold LD at h
 split at h<;>simp_all [IsKey]
def CE{d:TypeDesc}{a b:Value}(c:IsKey d a)(e:IsKey d b):QP a b=true↔a=b:=by
 cases d<;>cases a<;>cases b<;>simp_all [IsKey,QP,bytes_beq]
def mapIdx(ks:List Value)(k:Value):Option Nat:=ks.findIdx? (λx=>QP x k)
def yU{d:TypeDesc}{k:Value}(f:IsKey d k):∀{ks:List Value} {j:Nat},(∀x∈ks,IsKey d x)->ks.Nodup->ks[j]?=some k->mapIdx ks k=some j
 |[],j,_,_,h=>by simp at h
 |x::ks,j,a,hn,h=>by
  have b:=a x aas;unfold mapIdx;rw[Xu];cases j with
  |zero=>
   simp at h;subst h;rw[bX ((CE b b).2 rfl)]
  |succ j=>
   simp at h
   have c:x≠k:=by
    rintro rfl;exact(Rx.1 hn).1 (Bh h)
   rw[bV (λe=>c ((CE b f).1 e))];have:=yU f (λy hy=>a y (by simp[hy])) (Rx.1 hn).2 h;unfold mapIdx at this;rw[this];rfl
def yg{d:TypeDesc}{k:Value}(b:IsKey d k):∀{ks:List Value},(∀x∈ks,IsKey d x)->(∀x∈ks,x≠k)->mapIdx ks k=none
 |[],_,_=>rfl|x::ks,a,h=>by
  unfold mapIdx;rw[Xu,bV (λe=>h x aas ((CE (a x aas) b).1 e))];have:=yg b (ks:=ks) (λy hy=>a y (by simp[hy])) (λy hy=>h y (by simp[hy]));unfold mapIdx at this;rw[this];rfl
def RA(P:Program)(t:TypeId):Option AV:=
 match zeroOf P t with
 |some z=>if rL z=true/\dn (ofValue z) then some (ofValue z).norm else none|none=>none
def EL(P:Program)(H:cc)(t:TypeId)(x i:AV)(ok:Bool):Option AV:=
 match P.underlying t,x,i with
 |some (.map kt e),.nR o,.sc k=>
  match P.underlying kt,H[o]?,RA P e with
  |some d,some [.vp ks xs],some z=>
   if LD d k=true/\ks.all (LD d) then
    match mapIdx ks k with
    |some j=>(xs[j]?).map λv=>if ok then .tuple [v,.sc (.bool true)] else v|none=>some (if ok then .tuple [z,.sc (.bool false)] else z)
   else none
  |_,_,_=>none
 |_,_,_=>none
def Fp(ks:List Value)(xs:List AV)(k:Value)(v:AV):AV:=
 match mapIdx ks k with
 |some j=>.vp ks (xs.set j v)|none=>.vp (ks++[k]) (xs++[v])
def xp(P:Program)(t:TypeId)(x i v:AV)(K:Fr->cc->Prop)(fr:Fr)(H:cc):Prop:=
 match P.underlying t,x,i with
 |some (.map kt _),.nR o,.sc k=>
  match P.underlying kt,H[o]?with
  |some d,some [.vp ks xs]=>LD d k=true/\ks.all (LD d)=true/\K fr (H.set o [Fp ks xs k v.norm])|_,_=>False
 |_,_,_=>False
def Fc(dst:Option Nat)(K:Fr->cc->Prop)(fr:Fr)(H:cc):Prop:=K (fr.put dst (.nR H.length)) (H++[[.vp [] []]])
def ES(P:Program)(t:TypeId)(x:AV)(dst:Option Nat)(K:Fr->cc->Prop)(fr:Fr)(H:cc):Prop:=
 match P.underlying t,x with
 |some (.map _ _),.nR o=>
  match H[o]?with
  |some [.vp ks _]=>K (fr.put dst (.di H.length 0)) (H++[[.lb o ks.length []]])|_=>False
 |_,_=>False
def HN(x:AV)(dst:Option Nat)(K:Fr->cc->Prop)(fr:Fr)(H:cc):Prop:=
 match x with
 |.di i 0=>
  match H[i]?with
  |some [.lb o since seen]=>
   match H[o]?with
   |some [.vp ks xs]=>ks.length=since/\ks.all xi=true/\((∀j,j<ks.length->j∈seen)->K (fr.put dst (.tuple [.sc (.bool false)])) H)/\∀j k v,ks[j]?=some k->xs[j]?=some v->j∉seen->K (fr.put dst (.tuple [.sc (.bool true),.sc k,v])) (H.set i [.lb o since (seen++[j])])|_=>False
  |_=>False
 |_=>False
def C7(x:AV)(H:cc):Option AV:=
 match x with
 |.di i 0=>
  match H[i]?with
  |some [.lb o since seen]=>
   match H[o]?,seen.getLast? with
   |some [.vp ks xs],some j=>
    match ks[j]?,xs[j]?with
    |some k,some v=>if ks.length=since/\xi k then some (.tuple [.sc k,v])else none|_,_=>none
   |_,_=>none
  |_=>none
 |_=>none
def kc.Bm{F:js}{G:Nat->Nat}{n:Nat}{ks xs b}(h:kc F G n [.vp ks xs] b):∃es clock,b=.map es clock/\es.toList.map (·.key)=ks/\fi (eZ F G n) xs (es.toList.map (·.val))/\es.toList.map (·.born)=List.range ks.length/\clock=ks.length/\ks.Nodup:=by
 cases h with
 |cells g c a=>have:=a (.vp ks xs) aas;simp[AV.ej] at this
 |map c a d e f=>exact⟨_,_,rfl,c,a,d,e,f⟩
def kc.Mf{F:js}{G:Nat->Nat}{n:Nat}{o since seen a}(h:kc F G n [.lb o since seen] a):a=.mapIter (some (G o)) since seen.toArray since/\o<n:=by
 cases h with
 |cells c d b=>have:=b (.lb o since seen) aas;simp[AV.ej] at this
 |iter h=>exact⟨rfl,h⟩
section
variable{P:Program} {T:cV} {n B0:Nat} {ρ:Maps} {F:js} {R:Nat->mP} {fr:Fr} {H:cc} {a:Act} {w:World}
def CB{o:Nat}{v:Value}(h:eJ F ρ (.nR o) v):v=.map (some (ρ.G o))/\o<ρ.n:=by
 cases h with
 |cell h=>cases h with
  |p h=>cases h with|nR h=>exact⟨rfl,h⟩
def S'(w:World){t:TypeId}{z:AV}(h:RA P t=some z):∃v,(zeroValue t).run P w=.ok v w/\eZ F ρ.G ρ.n z v:=by
 unfold RA at h
 split at h
 ·rename_i z0 a
  split at h
  ·rename_i b;injection h with h;subst h;refine⟨z0,?_,(eJ.p (wM _ _ _ _ b.1)).norm⟩;unfold zeroOf at a;cases hi:P.info? t with
   |none=>rw[hi] at a;cases a
   |some i=>
    rw[hi] at a;simp at a;simp[zeroValue,typeInfo,hi,a]
  ·cases h
 ·cases h
def Oa{d:TypeDesc}{ks:List Value}{es:Array MapEntry}(h:es.toList.map (·.key)=ks)(a:ks.all (LD d)=true):∀x∈es.toList,IsKey d x.key:=by
 intro x b;refine tG (im.1 a _ ?_);rw[<-h];exact ll.2 ⟨x,b,rfl⟩
def EO{ks:List Value}{es:Array MapEntry}{j:Nat}{e:MapEntry}(h:es.toList.map (·.key)=ks)(a:es.toList[j]?=some e):ks[j]?=some e.key:=by
 rw[<-h,sw,a];rfl
def KK(h:WR T n B0 ρ F R fr H a w){t:TypeId}{x i r:AV}{ok:Bool}{M N:Value}(c:EL P H t x i ok=some r)(E:eJ F ρ x M)(hi:eJ F ρ i N):∃v,(Instr.lookup t M N ok).run P w=.ok v w/\eJ F ρ r v:=by
 unfold EL at c
 split at c
 ·rename_i kt e o k hu
  split at c
  ·rename_i d ks xs z C S U
   split at c
   ·rename_i G;obtain⟨rfl,_⟩:=CB E;obtain rfl:=eb hi;obtain⟨Y,O,V⟩:=h.g.kQ o _ S;obtain⟨es,clock,rfl,I,Q,Z,e4,W⟩:=V.Bm;rw[<-h.hn] at Q;have b:=tG G.1;have m:=Oa I G.2;have q:∀y∈ks,IsKey d y:=λy hy=>tG (im.1 G.2 _ hy);obtain⟨J,K,s⟩:=S' (F:=F) (ρ:=ρ) w U;rcases findNow_spec b es.toList 0 m with⟨f,l⟩|⟨j,D,f,l,L⟩
    ·rw[yg b q (by
      intro y hy;rw[<-I] at hy;obtain⟨x,E,rfl⟩:=ll.1 hy
      exact l x E)] at c
     simp only[uq] at c;subst c;refine⟨if ok then .tuple #[J,.bool false] else J,?_,?_⟩
     ·cases ok<;>simp[Instr.lookup,run_underlying hu,MapKept.run_getObj_map O,run_checkKey C b,run_findKey C f,K,Result.andThen]
     ·cases ok
      ·exact .p s
      ·exact .p (.tuple (vs:=[J,.bool false]) (.cons s (.cons (.sc rfl) .nil)))
    ·have u:=EO I l;rw[L] at u;rw[yU b q W u] at c;simp only[T2] at c;obtain⟨y,hy,rfl⟩:=c;obtain⟨X,A,B⟩:=Q.get hy
     have:X=D.val:=by
      rw[sw,l] at A;simpa using A.symm
     subst this;simp only[tu] at f;refine⟨if ok then .tuple #[D.val,.bool true] else D.val,?_,?_⟩
     ·cases ok<;>simp[Instr.lookup,run_underlying hu,MapKept.run_getObj_map O,run_checkKey C b,run_findKey C f,Result.andThen]
     ·cases ok
      ·exact .p B
      ·exact .p (.tuple (vs:=[D.val,.bool true]) (.cons B (.cons (.sc rfl) .nil)))
   ·cases c
  ·cases c
 ·cases c
def fi.acD{α β:Type}{R:α->β->Prop}{as:List α}{bs:List β}(h:fi R as bs){a:α}{b:β}(c:R a b)(j:Nat):fi R (as.set j a) (bs.set j b):=by
 induction h generalizing j with
 |nil=>simp;exact .nil|cons d e f=>cases j with
  |zero=>exact .cons c e|succ j=>exact .cons d (f j)
def An(f:MapEntry->MapEntry){α:Type}(g:MapEntry->α)(es:Array MapEntry)(j:Nat){e:MapEntry}(d:es.toList[j]?=some e):(es.modify j f).toList.map g=(es.toList.map g).set j (g (f e)):=by
 apply SE;intro i;simp only[sw,WB,Array.getElem?_modify,T1,Eo,Mq]
 by_cases a:j=i
 ·subst a
  have b:es[j]?=some e:=by simpa using d
  obtain⟨c,he⟩:=PM.1 b;simp[b,c,he]
 ·simp[a]
def Kg{α:Type}{l:List α}{j:Nat}{x:α}(h:l[j]?=some x):l.set j x=l:=by
 apply SE;intro i;rw[T1]
 by_cases a:j=i
 ·subst a;obtain⟨b,c⟩:=jj.1 h;simp[b,c]
 ·simp[a]
def BJ{G0:Nat->Nat}{F0:js}{n0:Nat}{w0:World}(h:WR T n w0.heap.size ρ F R fr H a w)(A:Ext w0.heap.size G0 F0 n0 w0 ρ.G F H.length w){t:TypeId}{x i v:AV}{Y u z:Value}{K:Fr->cc->Prop}
  (k:xp P t x i v K fr H) (M:eJ F ρ x Y) (N:eJ F ρ i u) (B:eJ F ρ v z):∃fr' H' w',(Instr.mapUpdate t Y u z).run P w=.ok () w'/\K fr' H'/\SR T n G0 F0 n0 w0 fr' H' a w':=by
 unfold xp at k
 split at k
 ·rename_i kt e o kk hu
  split at k
  ·rename_i d ks xs L O;obtain⟨Q,C,k⟩:=k;obtain⟨rfl,_⟩:=CB M;obtain rfl:=eb N;obtain⟨ob,D,h2⟩:=h.g.kQ o _ O;obtain⟨es,clock,rfl,p,S,Z,U,V⟩:=h2.Bm;have c:=tG Q;have q:=Oa p C;have E:∀y∈ks,IsKey d y:=λy hy=>tG (im.1 C _ hy)
   have hlen:es.toList.length=ks.length:=by rw[<-p];simp
   rw[<-h.hn] at S
   have fin:∀(l:Obj) (r:List AV),kc F ρ.G ρ.n r l->K fr (H.set o r)->(Instr.mapUpdate t (.map (some (ρ.G o))) u z).run P w=.ok () {w with heap:=w.heap.setIfInBounds (ρ.G o) l}->∃fr' H' w',(Instr.mapUpdate t (.map (some (ρ.G o))) u z).run P w=.ok () w'/\K fr' H'/\SR T n G0 F0 n0 w0 fr' H' a w':=by
    intro l r W k I;obtain⟨s1,s2⟩:=heap_set (o':=l) D;refine⟨_,_,_,I,k,ρ,F,R,h.Gm O aas aas s1 s2 W,?_⟩;rw[MP];refine A.Lb rfl rfl rfl aas λb X hn=>s2 b ?_;rintro rfl;exact hn o (jj.1 O).1 rfl
   rcases findNow_spec c es.toList 0 q with⟨m,f⟩|⟨j,e0,m,f,J⟩
   ·rw[Fp,yg c E (by
     intro y hy;rw[<-p] at hy;obtain⟨x,A,rfl⟩:=ll.1 hy
     exact f x A)] at k
    refine fin (.map (es.push {key:=u,val:=z,born:=clock}) (clock+1)) _ (.map ?_ ?_ ?_ ?_ ?_) k ?_
    ·simp[p]
    ·simpa using S.append (.cons B.norm .nil)
    ·simp[Z,U,List.range_succ]
    ·simp[U]
    ·rw[List.nodup_append];refine⟨V,aas,?_⟩;intro a ha b X;simp only[AL] at X;subst X;rw[<-p] at ha;obtain⟨x,A,rfl⟩:=ll.1 ha;exact f x A
    ·simp[Instr.mapUpdate,run_underlying hu,MapKept.run_getObj_map D,run_checkKey L c,run_findKey L m,run_setObj_map _ D,Result.andThen]
   ·have s:=EO p f;rw[J] at s;rw[Fp,yU c E V s] at k
    have hj:es[j]?=some e0:=by simpa using f
    simp only[tu] at m;refine fin (.map (es.modify j λe=>{e with key:=u,val:=z}) clock) _ (.map ?_ ?_ ?_ U V) k ?_
    ·rw[An _ _ _ _ f,p,Kg s]
    ·rw[An _ _ _ _ f];exact S.acD B.norm j
    ·rw[An _ _ _ _ f,Kg (by rw[sw,f];rfl),Z]
    ·simp[Instr.mapUpdate,run_underlying hu,MapKept.run_getObj_map D,run_checkKey L c,run_findKey L m,hj,J,run_keyThatStays c,run_setObj_map _ D,Result.andThen]
  ·exact k.elim
 ·exact k.elim
def qD{G0:Nat->Nat}{F0:js}{n0:Nat}{w0:World}(h:WR T n w0.heap.size ρ F R fr H a w)(i:Ext w0.heap.size G0 F0 n0 w0 ρ.G F H.length w){c:Obj}{cs:List AV}(e:kc F ρ.G ρ.n cs c)
  {dst:Option Nat} (k:∀d,dst=some d->d<n) {x:AV} {v:Value} (l:∀ρ':Maps,(∀o,o<H.length->ρ'.G o=ρ.G o)->ρ'.G H.length=w.heap.size->ρ'.n=H.length+1->eZ F ρ'.G ρ'.n x v):SR T n G0 F0 n0 w0 (fr.put dst x) (H++[cs]) (a.put dst v) (w.alloc c):=by
 obtain⟨ρ',m,hG,b,f,hw⟩:=(h.alloc c).Jm (h.ki _ (fT _)) (λj=>h.g.fresh _ j (fT _)) (heap_alloc_new w _) e;refine⟨ρ',F,m,hw.put k (.p (l ρ' hG b f)),?_⟩;rw[ni];exact(i.alloc h.oY _).WL hG (by rw[b];exact h.oY)
def AZ{G0:Nat->Nat}{F0:js}{n0:Nat}{w0:World}(h:WR T n w0.heap.size ρ F R fr H a w)(p:Ext w0.heap.size G0 F0 n0 w0 ρ.G F H.length w){t k:Nat}{parts:List (Nat×AV)}{pv:List (Nat×Value)}{tag:Tag}{l:List AV}
  {dst:Option Nat} (q:lv P t k parts=some (.slice tag l)) (c:fi (λ(x:Nat×AV) (y:Nat×Value)=>x.1=y.1/\eJ F ρ x.2 y.2) parts pv) (r:∀d,dst=some d->d<n):∃v w',(Instr.buildSlice t k pv.toArray).run P w=.ok v w'/\SR T n G0 F0 n0 w0 (fr.put dst (.oZ H.length 0 l.length l.length)) (H++[l.flatMap AV.cells]) (a.put dst v) w':=by
 obtain⟨u,us,e,sz,he,i,Ak,s,b,f,g⟩:=yJ w q c;injection he with _ he;subst he;refine⟨_,_,g,qD h p (.cells (.inl rfl) (by simpa using b) f) r ?_⟩;intro ρ' hG j m;have:=eZ.oZ (F:=F) (G:=ρ'.G) (n:=ρ'.n) (o:=H.length) (off:=0) (len:=l.length) (cap:=l.length) (by rw[m];omega) (fT _) (by rw[i];exact Ak);rw[j,i] at this;rw[i];exact this
def GU{G0:Nat->Nat}{F0:js}{n0:Nat}{w0:World}(h:WR T n w0.heap.size ρ F R fr H a w)(e:Ext w0.heap.size G0 F0 n0 w0 ρ.G F H.length w){t:TypeId}{dst:Option Nat}(f:∀d,dst=some d->d<n):∃v w',(Instr.makeMap t none).run P w=.ok v w'/\SR T n G0 F0 n0 w0 (fr.put dst (.nR H.length)) (H++[[.vp [] []]]) (a.put dst v) w':=by
 refine⟨.map (some w.heap.size),w.alloc (.map #[] 0),by simp[Instr.makeMap,Result.andThen],qD h e (.map aas (by simp;exact .nil) aas rfl aas) f ?_⟩;intro ρ' hG b c;have:=eZ.nR (F:=F) (G:=ρ'.G) (n:=ρ'.n) (o:=H.length) (by rw[c];omega);rw[b] at this;exact this
def LV{G0:Nat->Nat}{F0:js}{n0:Nat}{w0:World}(h:WR T n w0.heap.size ρ F R fr H a w)(l:Ext w0.heap.size G0 F0 n0 w0 ρ.G F H.length w){t:TypeId}{x:AV}{k:Value}{dst:Option Nat}{K:Fr->cc->Prop}
  (b:ES P t x dst K fr H) (m:∀d,dst=some d->d<n) (c:eJ F ρ x k):∃v w' fr' H',(Instr.range t k).run P w=.ok v w'/\K fr' H'/\SR T n G0 F0 n0 w0 fr' H' (a.put dst v) w':=by
 unfold ES at b
 split at b
 ·rename_i kt e o hu
  split at b
  ·rename_i ks xs p;obtain⟨rfl,f⟩:=CB c;obtain⟨u,q,r⟩:=h.g.kQ o _ p;obtain⟨es,clock,rfl,y,z,A,s,B⟩:=r.Bm;subst s;refine⟨_,_,_,_,run_range_map w t kt e (ρ.G o) es ks.length hu q,b,qD h l (.iter (seen:=[]) f) m ?_⟩;intro ρ' hG i j;have:=eZ.di (F:=F) (G:=ρ'.G) (n:=ρ'.n) (o:=H.length) (off:=0) (by rw[j];omega);rw[i] at this;exact this
  ·exact b.elim
 ·exact b.elim
def KB{es:Array MapEntry}{k:Nat}(h:es.toList.map (·.born)=List.range k){e:MapEntry}(he:e∈es.toList):e.born<k/\es.toList[e.born]?=some e:=by
 obtain⟨j,c⟩:=TA.1 he
 have b:(es.toList.map (·.born))[j]?=some e.born:=by rw[sw,c];rfl
 rw[h] at b
 have a:j<k:=by
  have:=(jj.1 b).1;simpa using this
 rw[Ui a] at b
 have:j=e.born:=by simpa using b
 rw[<-this];exact⟨a,c⟩
def HA(w:World){it m since:Nat}{seen:Array Nat}{es:Array MapEntry}(ty:TypeId)(hit:w.heap[it]?=some (.mapIter (some m) since seen since))(hm:w.heap[m]?=some (.map es since))(q:es.toList.map (·.born)=List.range since):((∀e∈es.toList,e.born∈seen)/\(Instr.next (.pointer (some ⟨it,0,none⟩)) false ty).run P w=.ok (.tuple #[.bool false]) w)\/∃e∈es.toList,e.born∉seen/\∃a,(a=w\/a=w.drew)/\(Instr.next (.pointer (some ⟨it,0,none⟩)) false ty).run P w=.ok (.tuple #[.bool true,e.key,e.val]) {a with heap:=a.heap.setIfInBounds it (.mapIter (some m) since (seen.push e.born) since)}:=by
 have hold:∀x∈es.toList,x.born<since:=λx c=>(KB q c).1;simp only[Instr.next,getObj,fq,Sem.run,hit,hm,Result.andThen,next_test_false seen es since since hold (fT _),gX,fL]
 have k:∀x,x∈(Array.filter (λe=>!seen.contains e.born) es).toList↔x∈es.toList/\x.born∉seen:=by
  intro x;simp
 generalize Array.filter (λe=>!seen.contains e.born) es=L at k|-;have b:∀x∈L.toList,x.born<since:=λx c=>hold x ((k x).1 c).1;have r:L.filter (λx=>decide (x.born<since))=L:=Array.filter_eq_self.2 (λx c=>by simpa using b x (by simpa using c))
 have s:L.filter (λx=>decide (x.born>=since))=#[]:=by
  rw[Array.filter_eq_empty_iff];intro x c;have:=b x (by simpa using c);simp;omega
 simp only[r,s,Array.append_empty]
 by_cases o:L.size=0
 ·left;have:L=#[]:=Uo o;subst this;refine⟨?_,?_⟩
  · intro e he;cases Decidable.em (e.born∈seen)with
    |inl h=>exact h|inr h=>have:=(k e).2 ⟨he,h⟩;simp at this
  · simp[choose,Sem.run,Question.forced]
 ·right
  have l:L.isEmpty=false:=by simp[Array.isEmpty,o]
  simp only[l,gX,fL,Array.empty_append,Array.size_map]
  have n:∃(j:Nat) (a:World),j<L.size/\(a=w\/a=w.drew)/\(choose (Question.mapNext L.size)).run P w=.ok j a:=by
    by_cases p:L.size<=1
    ·exact⟨0,w,VW,.inl rfl,by simp[choose,Sem.run,Question.forced,p]⟩
    ·exact⟨_,w.drew,UT _ VW,.inr rfl,by
      simp only[choose,Sem.run,Question.forced,m0,p,fL,Question.cut]
      rfl⟩
  obtain⟨j,a,t,d,f⟩:=n;have g:=(k L[j]).1 aas;refine⟨L[j],g.1,g.2,a,d,?_⟩
  have i:a.heap[it]?=some (.mapIter (some m) since seen since):=by
    rcases d with rfl|rfl
    ·exact hit
    ·exact hit
  have dx:∀(o':Obj),(setObj it o').run P a=.ok () {a with heap:=a.heap.setIfInBounds it o'}:=λo'=>by
    simp only[setObj,Sem.run,i]
  simp only[f,Array.getElem?_map,SB t,O8,fq,dx,Result.andThen];rfl
def M8(h:WR T n B0 ρ F R fr H a w){x r:AV}{B:Value}(b:C7 x H=some r)(s:eJ F ρ x B):∃v,(Instr.entry B).run P w=.ok v w/\eJ F ρ r v:=by
 unfold C7 at b
 split at b
 ·rename_i i
  split at b
  ·rename_i o since seen hi
   split at b
   ·rename_i ks xs j I J
    split at b
    ·rename_i k v C K
     split at b
     ·rename_i L;obtain⟨hlen,t⟩:=L;injection b with b;subst b;obtain⟨rfl,M⟩:=s_ s;obtain⟨X,g1,g2⟩:=h.g.kQ i _ hi;obtain⟨rfl,N⟩:=g2.Mf;obtain⟨O,Q,S⟩:=h.g.kQ o _ I;obtain⟨es,clock,rfl,D,E,u,G,Y⟩:=S.Bm;rw[hlen] at u G;subst G;rw[<-h.hn] at E;obtain⟨U,e,y⟩:=E.get K
      have z:j<clock:=by rw[<-hlen];exact(jj.1 C).1
      have f:j<es.toList.length:=by
       have:(es.toList.map (·.key)).length=ks.length:=by rw[D]
       simp only[Eo] at this;omega
      have c:es.toList[j]?=some es.toList[j]:=mi f
      have V:es.toList[j].born=j:=by
       have l:(es.toList.map (·.born))[j]?=some es.toList[j].born:=by rw[sw,c];rfl
       rw[u,Ui z] at l;exact(fS l).symm
      have m:es.toList[j].key=k:=by
       have l:=EO D c;rw[C] at l;exact(fS l).symm
      have q:es.toList[j].val=U:=by
       rw[sw,c] at e;exact fS e
      have W:es.find? (·.born==j)=some es.toList[j]:=by
       rw[<-Array.find?_toList]
       have A:(es.toList.map (·.born)).Nodup:=by rw[u];exact List.nodup_range
       have:=find_born es.toList[j] es.toList A (BB f);rw[V] at this;exact this
      have d:seen.toArray.back?=some j:=by
       rw[<-J];simp
      refine⟨.tuple #[es.toList[j].key,es.toList[j].val],?_,.p (.tuple (vs:=[es.toList[j].key,es.toList[j].val]) (.cons (by rw[m];exact .sc t) (.cons (by rw[q];exact y) .nil)))⟩;simp only[Instr.entry,getObj,fq,Sem.run,g1,Q,Result.andThen,d,bne_self_eq_false,gX,fL,W];rfl
     ·cases b
    ·cases b
   ·cases b
  ·cases b
 ·cases b
def Nb{G0:Nat->Nat}{F0:js}{n0:Nat}{w0:World}(h:WR T n w0.heap.size ρ F R fr H a w)(y:Ext w0.heap.size G0 F0 n0 w0 ρ.G F H.length w){x:AV}{V:Value}{dst:Option Nat}{K:Fr->cc->Prop}(ty:TypeId)
  (f:HN x dst K fr H) (W:∀d,dst=some d->d<n) (z:eJ F ρ x V):∃v w' fr' H',(Instr.next V false ty).run P w=.ok v w'/\K fr' H'/\SR T n G0 F0 n0 w0 fr' H' (a.put dst v) w':=by
 unfold HN at f
 split at f
 ·rename_i i
  split at f
  ·rename_i o since seen hi
   split at f
   ·rename_i ks xs ho;obtain⟨hlen,A,B,C⟩:=f;obtain⟨rfl,aa⟩:=s_ z;obtain⟨ob,g1,g2⟩:=h.g.kQ i _ hi;obtain⟨rfl,D⟩:=g2.Mf;obtain⟨ab,h1,h2⟩:=h.g.kQ o _ ho;obtain⟨es,clock,rfl,X,E,u,Y,e5⟩:=h2.Bm;rw[hlen] at u Y;subst Y;rw[<-h.hn] at E
    have ad:es.toList.length=ks.length:=by rw[<-X];simp
    rcases HA (P:=P) w ty g1 h1 u with⟨l,c⟩|⟨e,he,I,J,k,c⟩
    ·refine⟨_,_,_,_,c,B ?_,ρ,F,R,h.put W (.p (.tuple (vs:=[.bool false]) (.cons (.sc rfl) .nil))),y⟩;intro j hj
     have m:j<es.toList.length:=VW
     have hm:=l es.toList[j] (BB m)
     have L:(es.toList.map (·.born))[j]?=some es.toList[j].born:=by rw[sw,mi m];rfl
     rw[u,Ui VW] at L
     have:j=es.toList[j].born:=by simpa using L
     rw[this];simpa using hm
    ·obtain⟨b1,M⟩:=KB u he;have Z:ks[e.born]?=some e.key:=EO X M
     have N:(es.toList.map (·.val))[e.born]?=some e.val:=by rw[sw,M];rfl
     have ae:xs.length=es.toList.length:=by have:=E.length;simpa using this
     obtain⟨v,hv⟩:∃v,xs[e.born]?=some v:=⟨_,mi (by have:=(jj.1 M).1;omega)⟩;obtain⟨vv,q,O⟩:=E.get hv
     have:vv=e.val:=by rw[N] at q;simpa using q.symm
     subst this;have r:xi e.key=true:=im.1 A _ (Bh Z);have Q:=C e.born e.key v Z hv (by simpa using I)
     have s:WR T n w0.heap.size ρ F R fr H a J:=by
      rcases k with rfl|rfl
      ·exact h
      ·exact h.drew
     have t:Ext w0.heap.size G0 F0 n0 w0 ρ.G F H.length J:=by
      rcases k with rfl|rfl
      ·exact y
      ·exact y.drew
     have S:J.heap[ρ.G i]?=some (.mapIter (some (ρ.G o)) clock seen.toArray clock):=by
      rcases k with rfl|rfl
      ·exact g1
      ·exact g1
     obtain⟨s1,s2⟩:=heap_set (o':=.mapIter (some (ρ.G o)) clock (seen.toArray.push e.born) clock) S
     have U:kc F ρ.G ρ.n [.lb o clock (seen++[e.born])] (.mapIter (some (ρ.G o)) clock (seen.toArray.push e.born) clock):=by
      have:=kc.iter (F:=F) (G:=ρ.G) (n:=ρ.n) (o:=o) (since:=clock) (seen:=seen++[e.born]) (by rw[h.hn];exact D);simpa using this
     refine⟨_,_,_,_,c,Q,ρ,F,R,(s.Gm hi aas aas s1 s2 U).put W (.p (.tuple (vs:=[.bool true,e.key,e.val]) (.cons (.sc rfl) (.cons (.sc r) (.cons O .nil))))),?_⟩;rw[MP];refine t.Lb rfl rfl rfl aas λb L hn=>s2 b ?_;rintro rfl;exact hn i (jj.1 hi).1 rfl
   ·exact f.elim
  ·exact f.elim
 ·exact f.elim
end
end Go.jN
