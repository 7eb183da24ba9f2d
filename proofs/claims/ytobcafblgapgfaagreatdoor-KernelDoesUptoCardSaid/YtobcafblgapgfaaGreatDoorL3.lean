/- Part of the proof of KernelAccepts, KernelDoes: layer. -/
import Derived.Great.BuildSlice
import Derived.Lib.AppendStr
import Derived.MapKept
import Derived.Laws.IdiomRangeMap
import Derived.Test.YtobcafblgapgfaaGreatDoorL2
set_option linter.all false
namespace Go.ke
open Go
section
variable{B:Nat} {G G':Nat->Nat} {F F':jY} {n:Nat} {G0:Nat->Nat} {F0:jY} {n0:Nat} {w0 w w':World}
def Ext.KL(h:Ext B G0 F0 n0 w0 G F n w)(a:w'.os=w.os)(c:w'.tape=w.tape)(d:w'.output=w.output)(hs:w.heap.size<=w'.heap.size)
  (e:∀b,b<B->(∀o,o<n->G o≠b)->w'.heap[b]?=w.heap[b]?):Ext B G0 F0 n0 w0 G F n w':=
 h.trans ⟨a,c,d,hs,gu _,λ_ _=>rfl,λ_ h f=>absurd f VW,λ_ _ _ _=>rfl,λ_ _ _ _ h=>h,e⟩
def Ext.drew(h:Ext B G0 F0 n0 w0 G F n w):Ext B G0 F0 n0 w0 G F n w.drew:=h.KL rfl rfl rfl (gu _) λ_ _ _=>rfl
def Ext.alloc(h:Ext B G0 F0 n0 w0 G F n w)(a:B<=w.heap.size)(o:Obj):Ext B G0 F0 n0 w0 G F n (w.alloc o):=
 h.KL rfl rfl rfl aa4 λb c _=>heap_alloc_old w o VW
def Ext.setRow(h:Ext B G0 F0 n0 w0 G F n w){g:Nat}(hg:B<=g\/∃o,o<n/\G o=g)(cs:Array Value):Ext B G0 F0 n0 w0 G F n (w.setRow g cs):=
 h.KL rfl rfl rfl (by rw[size_setRow];exact gu _) λb c hn=>setRow_other w g b cs (by
  rintro rfl;rcases hg with hg|⟨o,a,hg⟩
  ·omega
  ·exact hn o a hg)
def Ext.freeze(h:Ext B G0 F0 n0 w0 G F n w)(hF:∀b j,b<B->F' b j=F b j):Ext B G0 F0 n0 w0 G F' n w:=
 h.trans ⟨rfl,rfl,rfl,gu _,gu _,λ_ _=>rfl,λ_ h c=>absurd c VW,λb j a _=>hF b j a,λb j v a d=>(hF b j a).trans d,λ_ _ _=>rfl⟩
def Ext.Ub(h:Ext B G0 F0 n0 w0 G F n w)(hF:∀b j,(∀o,o<n->G o≠b)->F' b j=F b j)(mF:∀b j v,F b j=some v->F' b j=some v):Ext B G0 F0 n0 w0 G F' n w:=
 h.trans ⟨rfl,rfl,rfl,gu _,gu _,λ_ _=>rfl,λ_ h a=>absurd a VW,λb j _ hg=>hF b j hg,λb j v _ c=>mF b j v c,λ_ _ _=>rfl⟩
def Ext.aaS(h:Ext B G0 F0 n0 w0 G F n w)(hG:∀o,o<n->G' o=G o)(hn:B<=G' n):Ext B G0 F0 n0 w0 G' F (n+1) w:=
 h.trans ⟨rfl,rfl,rfl,gu _,VW,hG,λo h1 a=>(by rw[show o=n from VW];exact hn),λ_ _ _ _=>rfl,λ_ _ _ _ h=>h,λ_ _ _=>rfl⟩
end
def SR(T:dx)(n:Nat)(G0:Nat->Nat)(F0:jY)(n0:Nat)(w0:World)(fr:Fr)(H:cW)(a:Act)(w:World):Prop:=
 ∃ρ F R,WR T n w0.heap.size ρ F R fr H a w/\Ext w0.heap.size G0 F0 n0 w0 ρ.G F H.length w
def sY(P:Program)(fr:Fr)(H:cW)(t:TypeId)(x:AV):Option AV:=
 match x with
 |.lG v=>if rD P t v then some v else none|.fC b g off=>if g=fr.gen b then(match fr.box b with|some cs=>lH P t cs off|none=>none)else none
 |.dM o off=>match H[o]?with|some cs=>if lj cs then lH P t cs off else none|none=>none
 |_=>none
section
variable{P:Program} {T:dx} {n B0:Nat} {ρ:Maps} {F:jY} {R:Nat->oM} {fr:Fr} {H:cW} {a:Act} {w:World}
def Qs{t:TypeId}{v:AV}(h:rD P t v=true):(∃k cs,eO P t=some (true,k)/\v=.agg cs/\cs.length=k)\/(∃k,eO P t=some (false,k)/\v.eD=true):=by
 unfold rD at h;cases a:eO P t with
 |none=>rw[a] at h;simp at h
 |some p=>
  obtain⟨b,k⟩:=p;rw[a] at h;cases b
  ·cases v<;>first|(simp at h;done)|exact .inr ⟨k,rfl,rfl⟩
  ·cases v<;>first|exact .inl ⟨k,_,rfl,rfl,by simpa using h⟩|(simp at h;done)
def yP(w:World){t:TypeId}{b off:Nat}{cs:List AV}{vs:Array Value}{ty:TypeId}{f:Nat×Nat}{z:AV}(i:w.heap[b]?=some (.cells vs ty f))
  (a:f_ (iL F ρ) cs vs.toList) (e:∀c∈cs,c.eD=true) (l:lH P t cs off=some z):∃v,(Instr.loadAt t (.pointer (some ⟨b,off,none⟩))).run P w=.ok v w/\fG F ρ z v:=by
 unfold Instr.loadAt;simp only[Instr.sureAddr,gb,ou,iS];rcases yY l with⟨k,g,hle,rfl⟩|⟨k,g,h⟩
 ·refine⟨.agg ((vs.toList.drop off).take k).toArray,?_,.agg ((a.drop off).take k) (λc h=>e c (EL (Ab h)))⟩;refine yf g w ⟨b,off,none⟩ _ (by have:=a.length;simp only[xZ,My];omega) ?_;intro j v d;rw[Addr.add_lit,cell_of_row w b _ vs ty f i];rw[DG] at d
  split at d
  ·rw[Js] at d;simpa using d
  ·cases d
 ·obtain⟨v,d,m⟩:=a.get h;refine⟨v,?_,.cell m⟩;refine yd g w ⟨b,off,none⟩ v ?_;rw[cell_of_row w b _ vs ty f i];simpa using d
def IL(h:WR T n B0 ρ F R fr H a w){t:TypeId}{x z:AV}{u:Value}(c:sY P fr H t x=some z)(i:fG F ρ x u):∃v,(Instr.loadAt t u).run P w=.ok v w/\fG F ρ z v:=by
 unfold sY at c
 split at c
 ·rename_i v
  split at c
  ·rename_i y;injection c with c;subst c;obtain⟨b,o,vs,rfl,h1,l,m⟩:=Dv i;unfold Instr.loadAt;simp only[Instr.sureAddr,gb,ou,iS];rcases Qs y with⟨k,cs,d,rfl,A⟩|⟨k,d,f⟩
   ·refine⟨.agg vs.toArray,?_,.p (.agg h1 m)⟩;refine yf d w ⟨b,o,none⟩ vs (by rw[<-h1.length];exact A) ?_;intro j v B;rw[Addr.add_lit];exact h.g.BF b _ v (l j v B)
   ·rw[AV.zP f] at h1;cases h1 with
    |cons h1 hn=>
     cases hn;rename_i u;refine⟨u,?_,.p h1⟩;refine yd d w ⟨b,o,none⟩ u ?_;exact h.g.BF b o u (l 0 u rfl)
  ·cases c
 ·rename_i b g off
  split at c
  ·rename_i hg
   split at c
   ·rename_i cs q;obtain⟨rfl,_⟩:=w8 i;obtain⟨h1,l,m,vs,ty,r,e⟩:=h.box b cs q;rw[hg];exact yP w r e m c
   ·cases c
  ·cases c
 ·rename_i o off
  split at c
  ·rename_i cs q
   split at c
   ·rename_i s;obtain⟨rfl,_⟩:=ui i;obtain⟨D,r,e⟩:=h.g.jX o cs q;obtain⟨vs,ty,E,rfl,_,e,C⟩:=e.xi s;rw[<-h.hn] at e;exact yP w r (e.mono λ_ _ _ h=>.p h) C c
   ·cases c
  ·cases c
 ·cases c
def Pv{w:World}{b j:Nat}{vs:Array Value}{ty:TypeId}{a:Nat×Nat}(c:w.heap[b]?=some (.cells vs ty a))(d:Nl a vs.size)(f:j<vs.size):w.frozen? ⟨b,j,none⟩=false:=by
 obtain⟨lo,hi⟩:=a;unfold World.frozen?;simp only[c];rcases d with h|h
 ·injection h with h1 e;subst h1;subst e;simp
 ·have h:vs.size<=lo:=h;simp only[Bool.and_eq_false_iff,UC];exact .inl VW
def rL(P:Program)(b o:Nat)(ty:TypeId)(c:Nat×Nat):∀(us:List Value) (i:Nat) (vs:Array Value) (w:World),w.heap[b]?=some (.cells vs ty c)->Nl c vs.size->o+i+us.length<=vs.size->(∀u∈us,u.oneCell'=true)->(storeCells ⟨b,o,none⟩ us i).run P w=.ok () (w.setRow b (vs.toList.take (o+i)++us++vs.toList.drop (o+i+us.length)).toArray)
 |[],i,vs,w,d,_,_,_=>by
  have e:=setRow_self w b vs ty c d;simp only[storeCells,wT,vo,ER,Q6,MO,e];rfl
 |u::us,i,vs,w,d,h,l,h1=>by
  simp only[kN] at l
  have f:o+i<vs.size:=VW
  have m:w.cell? ⟨b,o+i,none⟩=some vs[o+i]:=by
   rw[cell_of_row w b _ vs ty c d];exact Pe f
  have hs:(store ((⟨b,o,none⟩:Addr).add i) u).run P w=.ok () (w.setRow b (vs.setIfInBounds (o+i) u)):=by
   rw[Addr.add_lit,run_store P w _ u _ (h1 u aa4),m];simp[Pv d h f,setCell_eq_setRow w b (o+i) vs ty c u d]
  have g:=setRow_heap w b vs (vs.setIfInBounds (o+i) u) ty c d;have n:=rL P b o ty c us (i+1) _ _ g (by simpa using h) aa_ (λx p=>h1 x (by simp[p]));rw[storeCells];simp only[gb,hs,iS];rw[n,setRow_setRow]
  congr 2
  apply Bt.1;simp only[Zh];apply Qm;intro j;simp only[tE,kN,W6]
  have a:∀k,k<=vs.toList.length->(vs.toList.take k).length=k:=λk v=>by rw[xZ];omega
  have q:vs.toList.length=vs.size:=aa4
  rcases aaY j (o+i)with hj|hj|hj
  ·rw[p4 (by rw[xZ,CN];omega),p4 (by rw[a _ VW];omega),DG,DG,cO VW,cO hj,Dm VW]
  ·subst hj;rw[p4 (by rw[xZ,CN];omega),wc (by rw[a _ VW];omega),a _ VW,DG,cO VW,JY VW,SZ];rfl
  ·have r:∀X:List Value,((vs.toList.set (o+i) u).take (o+(i+1))++X)[j]?=X[j-(o+(i+1))]?:=λX=>by
    have s:((vs.toList.set (o+i) u).take (o+(i+1))).length=o+(i+1):=by rw[xZ,CN];omega
    rw[wc VW,s]
   have t:∀X:List Value,(vs.toList.take (o+i)++u::X)[j]?=X[j-(o+(i+1))]?:=λX=>by
    rw[wc (by rw[a _ VW];omega),a _ VW,show j-(o+i)=(j-(o+(i+1)))+1 by omega,mc]
   rw[r,t];rcases qu (j-(o+(i+1))) us.length with hu|hu
   ·rw[p4 hu,p4 hu]
   ·rw[wc hu,wc hu,Js,Js,Dm VW]
    congr 1
    omega
def yb(w:World){t:TypeId}{b off k:Nat}{bl:Bool}{vs:Array Value}{ty:TypeId}{a:Nat×Nat}{v:Value}(e:w.heap[b]?=some (.cells vs ty a))(c:Nl a vs.size)
  (f:eO P t=some (bl,k)) (g:v.cells.size=k) (d:off+k<=vs.size) (h1:∀u∈v.cells.toList,u.oneCell'=true):(Instr.storeAt t (.pointer (some ⟨b,off,none⟩)) v).run P w=.ok () (w.setRow b (vs.toList.take off++v.cells.toList++vs.toList.drop (off+v.cells.toList.length)).toArray):=by
 unfold Instr.storeAt;simp only[Instr.sureAddr,gb,ou,iS];unfold storeVar;simp only[gb,jW f,iS];rw[cK (by simp[g])];have:=rL P b off ty a v.cells.toList 0 vs w e c (by simp only[ER,Oi];omega) h1;simpa using this
end
def j_(E:List Nat)(dst:Option Nat)(cells:List AV)(K:Fr->cW->Prop)(fr:Fr)(H:cW):Prop:=
 match dst with
 |some d=>
  if E.contains d then K {fr with env:=fN fr.env d (.dM H.length 0)} (H++[cells.map AV.h_])
  else K {fr with env:=fN fr.env d (.fC d (fr.gen d+1) 0),box:=fN fr.box d (some cells),gen:=fN fr.gen d (fr.gen d+1)} H
 |none=>False
def ld(P:Program)(t:TypeId)(x v:AV)(K:Fr->cW->Prop)(fr:Fr)(H:cW):Prop:=
 match eO P t with
 |none=>False|some (_,n)=>
  match x with
  |.fC b g off=>
   match fr.box b with
   |some cs=>g=fr.gen b/\v.cells.length=n/\off+n<=cs.length/\dY v=true/\K {fr with box:=fN fr.box b (some (setCells cs off v.cells))} H|none=>False
  |.dM o off=>
   match H[o]?with
   |some cs=>lj cs=true/\v.cells.length=n/\off+n<=cs.length/\dY v=true/\K fr (H.set o (setCells cs off v.norm.cells))|none=>False
  |_=>False
section
variable{P:Program} {T:dx} {n:Nat} {G0:Nat->Nat} {F0:jY} {n0:Nat} {w0:World} {fr:Fr} {H:cW} {a:Act} {w:World}
def AV.sl{x:AV}(h:dY x=true):x.norm.cells=x.cells.map AV.h_:=by
 cases x<;>first|rfl|(simp[dY] at h)
def zB{cs:List AV}(h:∀c∈cs,c.eD=true):∀c∈cs.map AV.h_,c.eD=true:=by
 intro c a;obtain⟨x,b,rfl⟩:=l8.1 a;rw[AV.DT];exact h x b
def iT{F:jY}{ρ:Maps}{cs:List AV}{vs:List Value}(h:f_ (iL F ρ) cs vs)(h1:∀c∈cs,c.eD=true):∀u∈vs,u.oneCell'=true:=by
 intro u hu;obtain⟨x,a,b⟩:=h.mem hu;exact b.Ff (h1 x a)
def DW{ρ:Maps}{F:jY}{R:Nat->oM}(h:WR T n w0.heap.size ρ F R fr H a w)(p:Ext w0.heap.size G0 F0 n0 w0 ρ.G F H.length w){E:List Nat}{dst:Option Nat}{cells:List AV}{K:Fr->cW->Prop}
  (i:j_ E dst cells K fr H) (hd:∀d,dst=some d->d<n) {vs:Array Value} (ty:TypeId) (k:f_ (iL F ρ) cells vs.toList) (e:∀c∈cells,c.eD=true):∃fr' H',K fr' H'/\SR T n G0 F0 n0 w0 fr' H' (a.put dst (.pointer (some ⟨w.heap.size,0,none⟩))) (w.alloc (.cells vs ty)):=by
 unfold j_ at i
 split at i
 ·rename_i d;have l:=hd d rfl;have q:=h.alloc (.cells vs ty);have b:R w.heap.size=.free:=h.lb _ (gu _);have hF:∀j,F w.heap.size j=none:=λj=>h.g.fresh _ j (gu _);have f:(w.alloc (.cells vs ty)).heap[w.heap.size]?=some (.cells vs ty (0,0)):=heap_alloc_new w _
  split at i
  ·obtain⟨ρ',m,hG,o,hw⟩:=q.X4 b hF f (k.wQ AV.h_ λ_ _ _ h=>h.h_) (zB e) l;refine⟨_,_,i,ρ',F,m,hw,?_⟩;rw[oJ];exact(p.alloc h.qT _).aaS hG (by rw[o];exact h.qT)
  ·obtain⟨ρ',m,hG,hw⟩:=q.VQ h.qT b hF f k e l;refine⟨_,_,i,ρ',F,m,hw,?_⟩;rw[hG];exact p.alloc h.qT _
 ·exact i.elim
def MW(w:World){t:TypeId}{z:Value}(a:zeroOf P t=some z):(Instr.alloc t true (.tuple #[])).run P w=.ok (.pointer (some ⟨w.heap.size,0,none⟩)) (w.alloc (.cells z.cells t)):=by
 have b:(zeroValue t).run P w=.ok z w:=by
  unfold zeroOf at a;cases hi:P.info? t with
  |none=>rw[hi] at a;cases a
  |some i=>
   rw[hi] at a;simp at a;simp[zeroValue,typeInfo,hi,a]
 unfold Instr.alloc;simp only[gb,b,iS];rfl
def As{v:Value}(h:zG v=true)(a:∀vs,v≠ .tuple vs):(ofValue v).cells=v.cells.toList.map qb/\∀u∈v.cells.toList,u.oneCell'=true:=by
 cases v with
 |agg cs=>
  refine⟨rfl,λu hu=>?_⟩
  have b:cs.all (·.oneCell')=true:=h
  exact HJ.1 b u (wS.1 hu)
 |tuple vs=>exact absurd rfl (a vs)|_=>
  constructor
  ·rw[DS rfl];exact AV.zP (xV _)
  ·simp[Value.cells,Value.oneCell']
def MG{ρ:Maps}{F:jY}{R:Nat->oM}(h:WR T n w0.heap.size ρ F R fr H a w)(E:Ext w0.heap.size G0 F0 n0 w0 ρ.G F H.length w){t:TypeId}{x v:AV}{I p:Value}{K:Fr->cW->Prop}
  (f:ld P t x v K fr H) (r:fG F ρ x I) (j:fG F ρ v p):∃fr' H' w',(Instr.storeAt t I p).run P w=.ok () w'/\K fr' H'/\SR T n G0 F0 n0 w0 fr' H' a w':=by
 unfold ld at f
 split at f
 ·exact f.elim
 ·rename_i bl k J
  split at f
  ·rename_i b g off
   split at f
   ·rename_i cs s;obtain⟨hg,N,u,e,f⟩:=f;obtain⟨rfl,_⟩:=w8 r;obtain⟨h1,Q,L,vs,ty,A,m⟩:=h.box b cs s;have d:=j.cells (gP e);have hlen:=d.length
    have q:p.cells.toList.length=p.cells.size:=aa4
    have B:cs.length=vs.size:=by simpa using m.length
    have dH:=m.setCells d off;rw[hlen] at dH;rw[hg]
    have i:∀c∈setCells cs off v.cells,c.eD=true:=by
     intro c y;simp only[setCells,qA] at y;rcases y with(hm|hm)|hm
     ·exact L c (Ab hm)
     ·exact j.qS (gP e) c hm
     ·exact L c (EL hm)
    refine⟨_,_,_,yb w A (.inl rfl) J VW VW (iT d (j.qS (gP e))),f,ρ,F,R,h.S0 s (by simpa using dH) i,E.setRow (.inl h1) _⟩
   ·exact f.elim
  ·rename_i o off
   split at f
   ·rename_i cs s;obtain⟨z,N,u,e,f⟩:=f;obtain⟨rfl,O⟩:=ui r;obtain⟨S,A,m⟩:=h.g.jX o cs s;obtain⟨vs,ty,U,rfl,C,m,M⟩:=m.xi z;have d:=j.cells (gP e);have hlen:=d.length
    have q:p.cells.toList.length=p.cells.size:=aa4
    have B:cs.length=vs.size:=by simpa using m.length
    have l:f_ (fF F ρ.G ρ.n) v.norm.cells p.cells.toList:=by
     rw[AV.sl e];exact d.wQ AV.h_ λ_ _ _ h=>h.h_
    rw[<-h.hn] at m;have dH:=m.setCells l off
    have D:v.norm.cells.length=v.cells.length:=by rw[AV.sl e];simp
    rw[D,hlen] at dH
    have i:∀c∈setCells cs off v.norm.cells,c.eD=true:=by
     intro c y;simp only[setCells,qA] at y;rcases y with(hm|hm)|hm
     ·exact M c (Ab hm)
     ·rw[AV.sl e] at hm;exact zB (j.qS (gP e)) c hm
     ·exact M c (EL hm)
    refine⟨_,_,_,yb w A C J VW VW (iT d (j.qS (gP e))),f,ρ,F,R,h.OZ s z (by simpa using dH) (by simp only[setCells,oJ,xZ,My];omega) i,?_⟩;rw[CN];exact E.setRow (.inr ⟨o,by rw[<-h.hn];exact O,rfl⟩) _
   ·exact f.elim
  ·exact f.elim
end
end Go.ke
namespace Go.ke
open Go
def nT(P:Program)(t:TypeId):Option (TypeId×Nat):=
 match P.underlying t with
 |some (.slice e)=>
  match P.info? e with
  |some i=>
   match i.zero with
   |some z=>if z.cells.size=i.size/\i.bytes<=128/\0<i.size/\z.cells.toList.all Value.oneCell' then some (e,i.size)else none|none=>none
  |none=>none
 |_=>none
def ie:Nat:=1099511627776
section
variable{P:Program}
def nA{t e:TypeId}{sz:Nat}(h:nT P t=some (e,sz)):∃i z,P.underlying t=some (.slice e)/\P.info? e=some i/\i.zero=some z/\z.cells.size=sz/\i.size=sz/\i.bytes<=128/\0<sz:=by
 unfold nT at h
 split at h
 ·rename_i d hu
  split at h
  ·rename_i i hi
   split at h
   ·rename_i z b
    split at h
    ·rename_i a;injection h with h;injection h with h1 c;subst h1;subst c;exact⟨i,z,hu,hi,b,a.1,rfl,a.2.1,a.2.2.1⟩
    ·cases h
   ·cases h
  ·cases h
 ·cases h
def fill_flat{sz:Nat}:∀(pv:List Value) (k:Nat) (pre rest:List Value),(∀v∈pv,v.cells.size=sz)->pre.length=k*sz->rest.length=pv.length*sz->Instr.fill (λi=>some (i*sz,sz)) (pre++rest).toArray ((pv.zipIdx k).map λx=>(x.2,x.1))=some (pre++pv.flatMap λv=>v.cells.toList).toArray:=by
 intro pv
 induction pv with
 |nil=>
  intro k pre rest _ _ f;have:rest=[]:=Aa (by simpa using f);subst this;simp[Instr.fill]
 |cons v pv j=>
  intro k pre rest d g f;have h:=d v aa4
  have e:v.cells.toList.length=sz:=by simp[h]
  rw[kN,xu,S3] at f;have a:=foldl_set v.cells.toList 0 (k*sz) (pre++rest).toArray (by simp only[UT,oJ,ER];omega);simp only[ER,e] at a
  have l:(pre++rest).toArray.toList.take (k*sz)=pre:=by simp[<-g]
  have m:(pre++rest).toArray.toList.drop (k*sz+sz)=rest.drop sz:=by
   simp only[];rw[TD];rw[Da VW,mR,<-g]
   congr 1
   omega
  rw[l,m] at a;have c:=j (k+1) (pre++v.cells.toList) (rest.drop sz) (λu hu=>d u (by simp[hu])) (by rw[oJ,g,e,xu,S3]) (by rw[My,f];omega);simp only[List.zipIdx_cons,wb]
  show(if(decide (v.cells.size≠sz)||decide (k*sz+v.cells.size>(pre++rest).toArray.size)) then none
   else Instr.fill (λi=>some (i*sz,sz)) (v.cells.zipIdx.foldl (λcs (x:Value×Nat)=>cs.setIfInBounds (k*sz+x.2) x.1) (pre++rest).toArray) ((pv.zipIdx (k+1)).map λx=>(x.2,x.1)))=_
  rw[cK (by simp only[h,UT,oJ];simp;omega),<-Zx,ZF]
  have b:List.foldl (λcs (x:Value×Nat)=>cs.setIfInBounds (k*sz+x.2) x.1) (pre++rest).toArray v.cells.toList.zipIdx=(pre++v.cells.toList++rest.drop sz).toArray:=by
   apply Bt.1;rw[a]
  rw[b,c];simp[vP,tE]
end
section
variable{T:dx} {n B0:Nat} {ρ:Maps} {F:jY} {R:Nat->oM} {fr:Fr} {H:cW} {a:Act} {w:World}
def kh(F:jY)(b k:Nat)(vs:List Value):jY:=λa j=>if a=b/\j<k then vs[j]?else F a j
def zf(F:jY)(b:Nat)(vs:List Value):(kh F b vs.length vs).has b 0 vs:=by
 intro i v a;show(if b=b/\0+i<vs.length then vs[0+i]?else F b (0+i))=some v;rw[r_,cO ⟨rfl,(kj.1 a).1⟩];exact a
def WR.freeze(h:WR T n B0 ρ F R fr H a w){b:Nat}{vs:Array Value}{ty:TypeId}{k:Nat}{us:List Value}(i:R b=.free)(hF:∀j,F b j=none)
  (y:w.heap[b]?=some (.cells vs ty (0,0))) (t:FJ vs) (z:∀j v,j<k->us[j]?=some v->vs[j]?=some v):tI F (kh F b k us) ρ ρ/\WR T n B0 ρ (kh F b k us) R fr H a w:=by
 have hold:∀f j v,F f j=some v->kh F b k us f j=some v:=by
  intro f j v p;unfold kh;rw[cK]
  ·exact p
  ·rintro⟨rfl,_⟩;rw[hF j] at p;cases p
 have e:∀f j,f≠b->kh F b k us f j=F f j:=by
  intro f j A;unfold kh;rw[cK (λh=>A h.1)]
 have q:∀G n,Cc F (kh F b k us) G G n n:=λG n=>⟨hold,gu _,λ_ _=>rfl⟩;have r:tI F (kh F b k us) ρ ρ:=⟨q _ _,λ_=>gu _,λ_ _ _=>rfl,λ_=>gu _,λ_ _ _=>rfl⟩;refine⟨r,⟨⟨?_,?_,h.g.inj,?_,?_,λg x M=>(h.g.yI g x M).grow (q _ _),?_⟩,h.size,h.defers,h.env.grow r,h.hn,h.lg,h.ag,?_,?_,?_,h.nE,h.lb,h.qT⟩⟩
 ·intro f j v p;unfold kh at p
  split at p
  ·rename_i N;obtain⟨rfl,B⟩:=N;rw[cell_of_row w f j vs ty (0,0) y];exact z j v B p
  ·exact h.g.BF f j v p
 ·intro o cs u;obtain⟨C,h1,s⟩:=h.g.jX o cs u;exact⟨C,h1,s.grow (q _ _)⟩
 ·intro o j u D;rw[e]
  ·exact h.g.gF o j u D
  ·rintro rfl;have:=h.nE o u;rw[i] at this;cases this
 ·intro f j l;rw[e]
  ·exact h.g.fresh f j l
  ·rintro rfl;have:=nY y;omega
 ·intro O f j v p
  by_cases l:f=b
  ·subst l;exact⟨vs,ty,_,y,.inl rfl,t⟩
  ·rw[e _ _ l] at p;exact h.g.row O f j v p
 ·intro d cs hd;obtain⟨h1,s,E,vs',I,J,K⟩:=h.box d cs hd;exact⟨h1,s,E,vs',I,J,K.mono λ_ _ _ h=>h.grow r⟩
 ·intro k' m P f c sz Q;obtain⟨h1,s,E,L,J,K⟩:=h.tok k' m P f c sz Q;refine⟨h1,s,E,L,J,λj B=>?_⟩;rw[e]
  ·exact K j B
  ·rintro rfl;rw[i] at s;cases s
 ·intro f j v p
  by_cases l:f=b
  ·subst l;rw[i];simp
  ·rw[e _ _ l] at p;exact h.rf f j v p
def vO{F:jY}{b k:Nat}{us:List Value}{a j:Nat}(h:a≠b):kh F b k us a j=F a j:=by
 unfold kh;rw[cK (λc=>h c.1)]
end
def mH(P:Program)(t n:Nat)(parts:List (Nat×AV)):Option AV:=
 match nT P t with
 |some (_,sz)=>
  if parts.map (·.1)=List.range n/\parts.all (λp=>p.2.cells.length==sz&&dY p.2)=true/\n*sz<=16777216 then some (.slice .full (parts.map λp=>p.2.norm))else none
 |none=>none
def EW{α:Type}(parts:List (Nat×α))(n:Nat)(h:parts.map (·.1)=List.range n):parts=(parts.map (·.2)).zipIdx.map λx=>(x.2,x.1):=by
 have b:parts.length=n:=by have:=congrArg List.length h;simpa using this
 apply List.ext_getElem
 ·simp
 ·intro i h1 c
  have a:(parts.map (·.1))[i]?=(List.range n)[i]?:=by rw[h]
  simp only[tM,oO h1,Px,TU (show i<n by omega),sy] at a;simp only[List.getElem_map,List.getElem_zipIdx,r_];exact Prod.ext a rfl
section
variable{P:Program} {T:dx} {n:Nat} {G0:Nat->Nat} {F0:jY} {n0:Nat} {w0:World} {fr:Fr} {H:cW} {a:Act} {w:World}
def E1(w:World){t e:TypeId}{sz:Nat}(h:nT P t=some (e,sz)):(Instr.buildSlice t 0 #[]).run P w=.ok (.slice (some ⟨w.heap.size,0,none⟩) 0 0) (w.alloc (.cells #[] e)):=by
 obtain⟨i,z,hu,hi,b,_⟩:=nA h;simp[Instr.buildSlice,run_underlying hu,sizeOf,typeInfo,hi,Instr.fill,newRow]
 have a:((Array.range 0).map λ_=>(default:Value))=#[]:=by
  apply Tq;simp
 rw[a]
def Og{F:jY}{ρ:Maps}:∀{parts:List (Nat×AV)} {pv:List (Nat×Value)},f_ (λ(x:Nat×AV) (y:Nat×Value)=>x.1=y.1/\fG F ρ x.2 y.2) parts pv->(∀p∈parts,dY p.2=true)->f_ (fF F ρ.G ρ.n) ((parts.map λp=>p.2.norm).flatMap AV.cells) ((pv.map (·.2)).flatMap λv=>v.cells.toList)/\∀c∈(parts.map λp=>p.2.norm).flatMap AV.cells,c.eD=true:=by
 intro parts pv h hn
 induction h with
 |nil=>exact⟨.nil,aa4⟩|@cons p q ps i h1 _ d=>
  obtain⟨i1,i2⟩:=d λp e=>hn p aa8;have a:=hn p aa4;have f:=h1.2.cells (gP a);have g:=h1.2.qS (gP a)
  have b:f_ (fF F ρ.G ρ.n) p.2.norm.cells q.2.cells.toList:=by
   rw[AV.sl a];exact f.wQ AV.h_ λ_ _ _ h=>h.h_
  refine⟨?_,?_⟩
  ·simp only[wb,vP];exact b.append i1
  ·intro c hcm;simp only[wb,vP,qA] at hcm;rcases hcm with hcm|hcm
   ·rw[AV.sl a] at hcm;exact zB g c hcm
   ·exact i2 c hcm
def za{ρ:Maps}{F:jY}(w:World){t k:Nat}{parts:List (Nat×AV)}{pv:List (Nat×Value)}{r:AV}
  (g:mH P t k parts=some r) (b:f_ (λ(x:Nat×AV) (y:Nat×Value)=>x.1=y.1/\fG F ρ x.2 y.2) parts pv):∃l us e sz,r=.slice .full l/\l.length=k/\k<=maxLen/\(∀x∈l,x.cells.length=sz)/\f_ (fF F ρ.G ρ.n) (l.flatMap AV.cells) us/\(∀c∈l.flatMap AV.cells,c.eD=true)/\(Instr.buildSlice t k pv.toArray).run P w=.ok (.slice (some ⟨w.heap.size,0,none⟩) k k) (w.alloc (.cells us.toArray e)):=by
 unfold mH at g
 split at g
 ·rename_i e sz A
  split at g
  ·rename_i K;obtain⟨j,B,L⟩:=K;injection g with g;subst g;obtain⟨i,z,hu,hi,M,N,m,O,h⟩:=nA A
   have a:∀p∈parts,p.2.cells.length=sz/\dY p.2=true:=by
    intro p d;have:=j7.1 B p d;simpa using this
   have o:parts.length=k:=by have:=congrArg List.length j;simpa using this
   have s:pv.length=k:=by rw[<-b.length];exact o
   have C:pv.map (·.1)=List.range k:=by
    rw[<-j];clear j B a o s
    induction b with
    |nil=>rfl|cons h1 _ Q=>simp only[wb,Q,h1.1]
   have D:=EW pv k C
   have H:∀v∈pv.map (·.2),v.cells.size=sz:=by
    intro v R;obtain⟨q,S,rfl⟩:=l8.1 R;obtain⟨p,d,T⟩:=b.mem S;have h1:=T.2.cells (gP (a p d).2);have:=h1.length;rw[(a p d).1] at this;simpa using this.symm
   obtain⟨u,f⟩:=Og b λp d=>(a p d).2
   have E:(Instr.buildSlice t k pv.toArray).run P w=.ok (.slice (some ⟨w.heap.size,0,none⟩) k k) (w.alloc (.cells ((pv.map (·.2)).flatMap λv=>v.cells.toList).toArray e)):=by
    rcases Nat.eq_zero_or_pos k with I|hkpos
    ·subst I;have:pv=[]:=Aa s;subst this;exact E1 w A
    ·have J:=fill_flat (sz:=sz) (pv.map (·.2)) 0 [] ((Array.range (k*sz)).map (z.cells[· %z.cells.size]!)).toList H aa4 (by simp[s])
     rw[<-D] at J;simp only[mR,MO] at J;exact run_buildSlice w t e k pv.toArray _ i z hu hi M (by rw[m];omega) (by rw[m];have:=X3 hkpos h;omega) (by rw[m];exact J)
   refine⟨parts.map λp=>p.2.norm,_,e,sz,rfl,by simp[o],?_,?_,u,f,E⟩
   ·have:k<=k*sz:=Uk k h;simp only[maxLen];omega
   ·intro x U;obtain⟨p,d,rfl⟩:=l8.1 U;rw[AV.sl (a p d).2,AP];exact(a p d).1
  ·cases g
 ·cases g
def CW{ρ:Maps}{F:jY}{R:Nat->oM}(h:WR T n w0.heap.size ρ F R fr H a w)(D:Ext w0.heap.size G0 F0 n0 w0 ρ.G F H.length w){t k:Nat}{parts:List (Nat×AV)}{pv:List (Nat×Value)}{r:AV}
  {dst:Option Nat} (A:mH P t k parts=some r) (i:f_ (λ(x:Nat×AV) (y:Nat×Value)=>x.1=y.1/\fG F ρ x.2 y.2) parts pv) (hd:∀d,dst=some d->d<n):∃v w',(Instr.buildSlice t k pv.toArray).run P w=.ok v w'/\SR T n G0 F0 n0 w0 (fr.put dst r) H (a.put dst v) w':=by
 obtain⟨l,us,e,sz,rfl,B,CV,s,c,f,m⟩:=za w A i;have q:=heap_alloc_new w (.cells us.toArray e);obtain⟨z,hw⟩:=(h.alloc (.cells us.toArray e)).freeze (us:=us) (k:=us.length) (h.lb _ (gu _)) (λj=>h.g.fresh _ j (gu _)) q (λu hu=>iT (c.mono λ_ _ _ h=>iL.p h) f u (by simpa using hu)) (by intro j v _ E;simpa using E);refine⟨_,_,m,ρ,_,R,hw.put hd (x:=.slice .full l) (v:=.slice (some ⟨w.heap.size,0,none⟩) k k) ?_,?_⟩
 ·have C:=fF.slice (F:=kh F w.heap.size us.length us) (G:=ρ.G) (n:=ρ.n) (tag:=.full) (l:=l) (b:=w.heap.size) (o:=0) (base:=some ⟨w.heap.size,0,none⟩) (cap:=l.length) (sz:=sz)
   (.m6 (c.mono λ_ _ _ h=>h.grow z.g)) (zf _ _ _) (λ_=>rfl) s f (gu _) (by rw[B];exact CV) (.inr ⟨rfl,rfl⟩)
  rw[B] at C;exact .p C
 ·exact(D.alloc h.qT (.cells us.toArray e)).freeze (F':=kh F w.heap.size us.length us) λb j A=>vO (by have:=h.qT;omega)
end
def oV(fr:Fr)(tag:Tag)(l:List AV):Bool:=
 match tag with
 |.hY=>false|.full=>true|.loc k g=>g==fr.ei k&&fr.tm k==some l.length
def tY(tag:Tag)(tm:Nat->Option Nat):Nat->Option Nat:=
 match tag with
 |.loc k _=>fN tm k none|_=>tm
def grown(fr:Fr)(d:Nat)(tag:Tag)(l m:List AV):Fr:=
 {fr with env:=fN fr.env d (.slice (.loc d (fr.ei d+1)) (l++m)),tm:=fN (tY tag fr.tm) d (some (l.length+m.length)),ei:=fN fr.ei d (fr.ei d+1)}
def mO(P:Program)(T:dx)(c:Call)(dst:Option Nat)(K:Fr->cW->Prop)(fr:Fr)(H:cW):Prop:=
 match dst,c.args.toList,c.argTypes.toList with
 |some d,[s,x],[t,a]=>
  match nT P t,ev T fr s,ev T fr x with
  |some (_,sz),.slice tag l,.slice _ m=>
   a=t/\jq sz l=true/\jq sz m=true/\l.length+m.length<=ie/\(if oV fr tag l then K (grown fr d tag l m) H else m=[]/\K (fr.put (some d) (.slice .hY l)) H)
  |_,_,_=>False
 |_,_,_=>False
section
variable{P:Program} {T:dx} {n:Nat} {G0:Nat->Nat} {F0:jY} {n0:Nat} {w0:World} {fr:Fr} {H:cW} {a:Act} {w:World}
def Ey(w:World){t e:TypeId}{sz:Nat}(h:nT P t=some (e,sz))(ty:TypeId)(base:Option Addr)(len cap:Nat)(a:len<=cap)(x:Value)(f:∃b c,x=.slice b 0 c):(Builtin.append_ #[t,t] ty #[.slice base len cap,x]).run P w=.ok (.slice base len cap) w:=by
 obtain⟨i,z,hu,hi,m,g,j,k,d⟩:=nA h;obtain⟨b,c,rfl⟩:=f;cases b with
 |none=>
  cases base with
  |none=>simp[Builtin.append_,run_underlying hu,sizeOf,typeInfo,hi,Builtin.lenOf,a,Builtin.firstCells]|some l=>simp[Builtin.append_,run_underlying hu,sizeOf,typeInfo,hi,Builtin.lenOf,a,Builtin.firstCells,storeCells]
 |some b=>
  cases base with
  |none=>simp[Builtin.append_,run_underlying hu,sizeOf,typeInfo,hi,Builtin.lenOf,a,Builtin.firstCells,loadCells,loadCellsFrom]|some l=>simp[Builtin.append_,run_underlying hu,sizeOf,typeInfo,hi,Builtin.lenOf,a,Builtin.firstCells,storeCells,loadCells,loadCellsFrom]
def wE(w:World)(t ty e n:TypeId)(i:TypeInfo)(o:P.underlying t=some (.slice e))(hi:P.info? e=some i)
  (g b d:Nat) (cur:Array Value) (hg:w.heap[g]?=some (.cells cur n (0,0)))
  (a:Addr) (m c:Nat) (news:List Value) (p:news.length=m*i.size) (f:∀j u,news[j]?=some u->w.cell? (a.add j)=some u) (h1:∀u∈news,u.oneCell'=true)
  (h:b+m<=d) (k:b*i.size+news.length<=cur.size):(Builtin.append_ #[t,t] ty #[.slice (some ⟨g,0,none⟩) b d,.slice (some a) m c]).run P w=.ok (.slice (some ⟨g,0,none⟩) (b+m) d) (w.setRow g (cur.toList.take (b*i.size)++news++cur.toList.drop (b*i.size+news.length)).toArray):=by
 have q:=run_firstCells_some (P:=P) w i.size m a m c news p f;have l:=run_storeCells_at P g (b*i.size) n news 0 cur w hg (by simpa using k) h1;simp only[ER] at l;simp[Builtin.append_,run_underlying o,sizeOf,typeInfo,hi,Builtin.lenOf,h,q,Addr.add_lit,l]
def WR.rename{ρ:Maps}{F:jY}{R:Nat->oM}{B0:Nat}(h:WR T n B0 ρ F R fr H a w){tag:Tag}{l:List AV}{base:Option Addr}{cap d:Nat}(hd:d<n)
  (hp:fF F ρ.G ρ.n (.slice .hY l) (.slice base l.length cap)) (y:tag=.full/\cap=l.length\/∃k g,tag=.loc k g/\g=fr.ei k/\fr.tm k=some l.length/\su ρ k g l base cap):∃ρ' Q,ρ'.G=ρ.G/\ρ'.n=ρ.n/\(∀k g,tag=.loc k g->ρ'.A d (fr.ei d+1)=ρ.A k g)/\ρ'.ag d=fr.ei d+1/\WR T n B0 ρ' F Q (grown fr d tag l []) H (a.put (some d) (.slice base l.length cap)) w:=by
 let f:Option (Nat×Nat×Nat):=match tag with|.loc k g=>ρ.A k g|_=>none
 let ρ':Maps:={ρ with A:=rT ρ.A d (fr.ei d+1) f,ag:=fN ρ.ag d (fr.ei d+1)}
 let Q:Nat->oM:=match f with|some (b,_,_)=>fN R b (.arr d)|none=>R
 have B:tI F F ρ ρ':=by
  refine⟨.refl,λ_=>gu _,λ_ _ _=>rfl,λk=>?_,λk g hg=>?_⟩
  ·show ρ.ag k<=fN ρ.ag d (fr.ei d+1) k;unfold fN
   split
   ·rename_i S;subst S;rw[h.ag];omega
   ·exact gu _
  ·show rT ρ.A d (fr.ei d+1) f k g=ρ.A k g;unfold rT;rw[cK];rintro⟨rfl,rfl⟩;rw[h.ag] at hg;omega
 have i:∀b c sz,f=some (b,c,sz)->∃k g,tag=.loc k g/\g=fr.ei k/\fr.tm k=some l.length/\ρ.A k (fr.ei k)=some (b,c,sz)/\base=some ⟨b,0,none⟩/\cap=c/\∀x∈l,x.cells.length=sz:=by
  intro b c sz q;rcases y with⟨rfl,_⟩|⟨k,g,rfl,rfl,z,t⟩
  ·exact absurd q (by simp[f])
  ·refine⟨k,_,rfl,rfl,z,q,?_⟩;unfold su at t;have C:ρ.A k (fr.ei k)=some (b,c,sz):=q;rw[C] at t;exact t
 have D:∀J,(∀k,R J≠ .arr k)->Q J=R J:=by
  intro J W;show(match f with|some (b,_,_)=>fN R b (.arr d)|none=>R) J=R J;cases q:f with
  |none=>rfl|some p=>
   obtain⟨b,c,sz⟩:=p;obtain⟨k,g,_,_,z,r,_⟩:=i b c sz q;have K:=(h.tok k _ z b c sz r).2.1;simp only[fN];rw[cK];rintro rfl;exact W k K
 have M:su ρ' d (fr.ei d+1) l base cap:=by
  unfold su
  have e:ρ'.A d (fr.ei d+1)=f:=by show rT ρ.A d (fr.ei d+1) f d (fr.ei d+1)=f;simp[rT]
  rw[e];cases q:f with
  |none=>
   rcases y with⟨_,hc⟩|⟨k,g,rfl,rfl,z,t⟩
   ·exact hc
   ·unfold su at t;have C:ρ.A k (fr.ei k)=none:=q;rw[C] at t;exact t
  |some p=>
   obtain⟨b,c,sz⟩:=p;obtain⟨_,_,_,_,_,_,h1,U,X⟩:=i b c sz q;exact⟨h1,U,X⟩
 refine⟨ρ',Q,rfl,rfl,?_,by show fN ρ.ag d (fr.ei d+1) d=_;simp[fN],⟨⟨h.g.BF,h.g.jX,h.g.inj,h.g.gF,h.g.fresh,h.g.yI,h.g.row⟩,by rw[CB];exact h.size,by rw[put_defers];exact h.defers,?_,h.hn,h.lg,?_,?_,?_,?_,?_,?_,h.qT⟩⟩
 ·rintro k g rfl;show rT ρ.A d (fr.ei d+1) f d (fr.ei d+1)=ρ.A k g;simp[rT,f]
 ·have h0:=(h.env.grow B).put (d:=some d) (by intro E he;injection he with he;subst he;rw[h.size];exact hd) (x:=.slice (.loc d (fr.ei d+1)) l) (v:=.slice base l.length cap)
   (.cell (.loc (hp.grow B.g) (by show _<=fN ρ.ag d (fr.ei d+1) d;simp[fN]) M))
  simp only[grown,wT];exact h0
 ·intro k;show fN ρ.ag d (fr.ei d+1) k=fN fr.ei d (fr.ei d+1) k;unfold fN
  split
  ·rfl
  ·exact h.ag k
 ·intro E cs Y;obtain⟨h1,U,X,vs,ty,h4,h5⟩:=h.box E cs Y;exact⟨h1,by rw[D _ (by intro k;show R (ρ.L E (fr.gen E))≠_;rw[U];simp)];exact U,X,vs,ty,h4,h5.mono λ_ _ _ h=>h.grow B⟩
 ·intro k m s b c sz q;simp only[grown,fN] at s
  by_cases u:k=d
  ·subst u;simp only[if_true,vo,ER,sy] at s;subst s
   have N:(grown fr k tag l []).ei k=fr.ei k+1:=by simp[grown,fN]
   rw[N] at q
   have V:ρ'.A k (fr.ei k+1)=f:=by show rT ρ.A k (fr.ei k+1) f k (fr.ei k+1)=f;simp[rT]
   rw[V] at q;obtain⟨k2,g2,_,_,z,r,ak,an,aq⟩:=i b c sz q;obtain⟨N,V,Z,aa,O,e5⟩:=h.tok k2 _ z b c sz r;refine⟨N,?_,Z,aa,O,e5⟩;show(match f with|some (b,_,_)=>fN R b (.arr k)|none=>R) b=.arr k;rw[q];simp[fN]
  ·simp only[cK u] at s
   have N:(grown fr d tag l []).ei k=fr.ei k:=by simp[grown,fN,u]
   rw[N] at q
   have V:ρ'.A k (fr.ei k)=ρ.A k (fr.ei k):=by show rT ρ.A d (fr.ei d+1) f k (fr.ei k)=_;simp[rT,u]
   rw[V] at q
   have P:fr.tm k=some m/\∀k2 g2,tag=.loc k2 g2->k≠k2:=by
    unfold tY at s
    split at s
    ·rename_i k2 g2;simp only[fN] at s
     split at s
     ·cases s
     ·rename_i ab;refine⟨s,λk3 g3 he=>?_⟩;injection he with ad ar;subst ad;exact ab
    ·rename_i ae;exact⟨s,λk3 g3 he=>absurd he (ae k3 g3)⟩
   obtain⟨Z,O,e5,af,e6,e7⟩:=h.tok k m P.1 b c sz q;refine⟨Z,?_,e5,af,e6,e7⟩;show(match f with|some (b,_,_)=>fN R b (.arr d)|none=>R) b=.arr k;cases ah:f with
   |none=>exact O|some p=>
    obtain⟨b3,c3,I⟩:=p;obtain⟨k2,g2,ai,_,z,r,_⟩:=i b3 c3 I ah;have K:=(h.tok k2 _ z b3 c3 I r).2.1;simp only[fN];rw[cK]
    ·exact O
    ·rintro rfl;rw[O] at K;injection K with K;exact P.2 k2 g2 ai K
 ·intro b j v hf;intro E;have S:=h.rf b j v hf E;show(match f with|some (b,_,_)=>fN R b (.arr d)|none=>R) b≠ .box E;cases q:f with
  |none=>exact S|some p=>
   obtain⟨b3,c3,I⟩:=p;simp only[fN]
   split
   ·simp
   ·exact S
 ·intro o t;have:=h.nE o t;rw[D _ (by intro k;show R (ρ.G o)≠_;rw[this];simp)];exact this
 ·intro b hb;have:=h.lb b hb;rw[D b (by rw[this];simp)];exact this
end
end Go.ke
namespace Go.ke
open Go
def Kh{α:Type}(f:Nat->α)(i:Nat)(x y:α):fN (fN f i x) i y=fN f i y:=by
 funext j
 unfold fN
 split<;>rfl
def zz{α:Type}(f:Nat->α)(i j:Nat)(x:α)(h:j≠i):fN f i x j=f j:=by simp[fN,h]
def vQ{a:Array Value}(h:∀u∈a.toList,u.oneCell'=true)(c:0<a.size)(k:Nat):∀u∈(Builtin.zeroCells a k).toList,u.oneCell'=true:=by
 intro u hu;unfold Builtin.zeroCells at hu;simp only[LA,l8] at hu;obtain⟨i,_,rfl⟩:=hu;have b:i%a.size<a.size:=aaC _ c;rw[getElem!_pos a _ b];exact h _ aa4
def K_{P:Program}{t e:TypeId}{sz:Nat}(h:nT P t=some (e,sz)){i:TypeInfo}{z:Value}(hi:P.info? e=some i)(b:i.zero=some z):∀u∈z.cells.toList,u.oneCell'=true:=by
 unfold nT at h
 split at h
 ·rename_i d hu
  split at h
  ·rename_i f hi'
   split at h
   ·rename_i g a
    split at h
    ·rename_i c;injection h with h;injection h with h1 j;subst h1;rw[hi] at hi';cases hi';rw[b] at a;cases a
     exactλu hu=>j7.1 c.2.2.2 u hu
    ·cases h
   ·cases h
  ·cases h
 ·cases h
section
variable{P:Program} {T:dx} {n B0:Nat} {ρ:Maps} {F:jY} {R:Nat->oM} {fr:Fr} {H:cW} {a:Act} {w:World}
def WR.extend(h:WR T n B0 ρ F R fr H a w){d p q b c sz:Nat}{news:List Value}(ht:fr.tm d=some p)(hA:ρ.A d (fr.ei d)=some (b,c,sz))(hq:news.length=q*sz)(B:p+q<=c)(E:∀u∈news,u.oneCell'=true)
  {cur:Array Value} {ty:TypeId} (U:w.heap[b]?=some (.cells cur ty (0,0))):∃F',tI F F' ρ ρ/\(∀e j,e≠b->F' e j=F e j)/\(∀(j:Nat) (v:Value),news[j]?=some v->F' b (p*sz+j)=some v)/\WR T n B0 ρ F' R {fr with tm:=fN fr.tm d (some (p+q))} H a (w.setRow b (cur.toList.take (p*sz)++news++cur.toList.drop (p*sz+news.length)).toArray):=by
 obtain⟨h1,W,h3,X,⟨vs,s,V,h5,L⟩,Y⟩:=h.tok d p ht b c sz hA;rw[U] at V;injection V with V;injection V with Z M;subst Z;subst M;have aa:(p+q)*sz<=c*sz:=CP _ B;rw[xu] at aa
 have ab:p*sz<=cur.toList.length:=aa_
 let F':jY:=λe j=>if e=b/\p*sz<=j/\j<p*sz+news.length then news[j-p*sz]?else F e j
 have hold:∀e j v,F e j=some v->F' e j=some v:=by
  intro e j v l;show(if e=b/\p*sz<=j/\j<p*sz+news.length then news[j-p*sz]?else F e j)=some v;rw[cK]
  ·exact l
  ·rintro⟨rfl,C,_⟩;rw[Y j C] at l;cases l
 have f:∀e j,e≠b->F' e j=F e j:=by
  intro e j t;show(if e=b/\p*sz<=j/\j<p*sz+news.length then news[j-p*sz]?else F e j)=F e j;rw[cK (λh=>t h.1)]
 have N:∀(j:Nat) (v:Value),news[j]?=some v->F' b (p*sz+j)=some v:=by
  intro j v hv;have C:=(kj.1 hv).1;show(if b=b/\p*sz<=p*sz+j/\p*sz+j<p*sz+news.length then news[p*sz+j-p*sz]?else F b (p*sz+j))=some v;rw[cO ⟨rfl,VW,VW⟩,Nat.add_sub_cancel_left];exact hv
 have I:∀G n,Cc F F' G G n n:=λG n=>⟨hold,gu _,λ_ _=>rfl⟩;have J:tI F F' ρ ρ:=⟨I _ _,λ_=>gu _,λ_ _ _=>rfl,λ_=>gu _,λ_ _ _=>rfl⟩
 have y:∀e,R e≠ .arr d->e≠b:=by rintro e i rfl;exact i W
 have D:FJ (cur.toList.take (p*sz)++news++cur.toList.drop (p*sz+news.length)).toArray:=by
  intro u hu;simp only[qA] at hu;rcases hu with(hu|hu)|hu
  ·exact L u (Ab hu)
  ·exact E u hu
  ·exact L u (EL hu)
 have r:=setRow_heap w b cur (cur.toList.take (p*sz)++news++cur.toList.drop (p*sz+news.length)).toArray ty (0,0) U;refine⟨F',J,f,N,⟨⟨?_,?_,h.g.inj,?_,?_,λg x hx=>(h.g.yI g x hx).grow (I _ _),?_⟩,h.size,h.defers,h.env.grow J,h.hn,h.lg,h.ag,?_,?_,?_,h.nE,?_,by rw[size_setRow];exact h.qT⟩⟩
 ·intro e j v l
  by_cases i:e=b
  ·subst i;rw[cell_of_row _ e j _ ty (0,0) r];simp only[QX];change (if e=e/\p*sz<=j/\j<p*sz+news.length then news[j-p*sz]?else F e j)=some v at l
   split at l
   ·rename_i hc;rw[tE,wc (by rw[xZ];omega),xZ,GS ab,p4 VW];exact l
   ·rename_i hc
    have C:j<p*sz:=by
     rcases qu j (p*sz)with h'|h'
     ·exact h'
     ·rw[Y j h'] at l;cases l
    have:=h.g.BF e j v l;rw[cell_of_row w e j cur ty (0,0) U] at this;rw[tE,p4 (by rw[xZ];omega),DG,cO C];simpa using this
  ·rw[cell_setRow_other _ _ _ _ _ i];rw[f _ _ i] at l;exact h.g.BF e j v l
 ·intro o cs O;obtain⟨ad,g1,g2⟩:=h.g.jX o cs O;refine⟨ad,?_,g2.grow (I _ _)⟩;rw[setRow_other]
  ·exact g1
  ·exact y _ (by rw[h.nE o (kj.1 O).1];simp)
 ·intro o j O ae;rw[f]
  ·exact h.g.gF o j O ae
  ·exact y _ (by rw[h.nE o O];simp)
 ·intro e j i;rw[size_setRow] at i;rw[f]
  ·exact h.g.fresh e j i
  ·rintro rfl;have:=nY U;omega
 ·intro hT e j v l
  by_cases i:e=b
  ·subst i;exact⟨_,ty,_,r,.inl rfl,D⟩
  ·rw[f _ _ i] at l;obtain⟨af,ah,ai,g1,g2⟩:=h.g.row hT e j v l;exact⟨af,ah,ai,by rw[setRow_other _ _ _ _ i];exact g1,g2⟩
 ·intro d' cs ak;obtain⟨g1,g2,g3,vs',s,g4,g5⟩:=h.box d' cs ak;refine⟨g1,g2,g3,vs',s,?_,g5.mono λ_ _ _ h=>h.grow J⟩;rw[setRow_other]
  ·exact g4
  ·exact y _ (by rw[g2];simp)
 ·intro k m P e c' Q S;simp only[fN] at P
  by_cases K:k=d
  ·subst K;simp only[if_true,sy] at P;subst P;have z:ρ.A k (fr.ei k)=some (e,c',Q):=S;rw[hA] at z;injection z with z;injection z with Z M;injection M with M e3;subst Z;subst M;subst e3;refine⟨h1,W,⟨by have:=h3.1;omega,B⟩,X,⟨_,ty,r,?_,D⟩,?_⟩
   ·simp only[UT,oJ,xZ,My,Oi];omega
   ·intro j C;rw[xu,<-hq] at C;show(if b=b/\p*sz<=j/\j<p*sz+news.length then news[j-p*sz]?else F b j)=none;rw[cK VW];exact Y j VW
  ·simp only[cK K] at P;obtain⟨g1,g2,g3,an,⟨vs',s,g4,g5⟩,g6⟩:=h.tok k m P e c' Q S;have t:e≠b:=y _ (by rw[g2];simp[K]);refine⟨g1,g2,g3,an,⟨vs',s,by rw[setRow_other _ _ _ _ t];exact g4,g5⟩,λj C=>?_⟩;rw[f _ _ t];exact g6 j C
 ·intro e j v l
  by_cases i:e=b
  ·subst i;rw[W];simp
  ·rw[f _ _ i] at l;exact h.rf e j v l
 ·intro e i;rw[size_setRow] at i;exact h.lb e i
def WR.Tc(h:WR T n B0 ρ F R fr H a w){b:Nat}{vs:Array Value}{ty:TypeId}{us:List Value}{c sz:Nat}{tag:Tag}{l m:List AV}{d:Nat}(hd:d<n)(hb:B0<=b)(p:R b=.free)
  (hF:∀j,F b j=none) (U:w.heap[b]?=some (.cells vs ty (0,0))) (y:FJ vs) (V:vs.size=c*sz) (W:0<l.length+m.length) (hp:l.length+m.length<=c) (hc:c<=maxLen) (ad:us.length=(l.length+m.length)*sz)
  (E:∀(j:Nat) (v:Value),us[j]?=some v->vs[j]?=some v) (s:fq F ρ.G ρ.n ((l++m).flatMap AV.cells) us) (I:∀x∈(l++m).flatMap AV.cells,x.eD=true) (J:∀x∈l++m,x.cells.length=sz):∃ρ' K,ρ'.G=ρ.G/\WR T n B0 ρ' (kh F b us.length us) K (grown fr d tag l m) H (a.put (some d) (.slice (some ⟨b,0,none⟩) (l.length+m.length) c)) w:=by
 obtain⟨z,M⟩:=h.freeze (k:=us.length) (us:=us) p hF U y (λj v _ hv=>E j v hv)
 let ρ':Maps:={ρ with A:=rT ρ.A d (fr.ei d+1) (some (b,c,sz)),ag:=fN ρ.ag d (fr.ei d+1)}
 let K:Nat->oM:=fN R b (.arr d)
 have t:tI F (kh F b us.length us) ρ ρ':=by
  refine⟨z.g,λ_=>gu _,λ_ _ _=>rfl,λk=>?_,λk g hg=>?_⟩
  ·show ρ.ag k<=fN ρ.ag d (fr.ei d+1) k;unfold fN
   split
   ·rename_i h';subst h';rw[h.ag];omega
   ·exact gu _
  ·show rT ρ.A d (fr.ei d+1) (some (b,c,sz)) k g=ρ.A k g;unfold rT;rw[cK];rintro⟨rfl,rfl⟩;rw[h.ag] at hg;omega
 have B:tI (kh F b us.length us) (kh F b us.length us) ρ ρ':=⟨.refl,t.lg,t.L,t.ag,t.A⟩
 have q:∀f,R f≠ .free->K f=R f:=by
  intro f i;show fN R b (.arr d) f=R f;unfold fN;rw[cK];rintro rfl;exact i p
 have ae:∀f,R f≠ .free->f≠b:=by rintro f i rfl;exact i p
 refine⟨ρ',K,rfl,⟨M.g,by rw[CB];exact h.size,by rw[put_defers];exact h.defers,?_,h.hn,h.lg,?_,?_,?_,?_,?_,?_,h.qT⟩⟩
 ·have N:fG (kh F b us.length us) ρ' (.slice (.loc d (fr.ei d+1)) (l++m)) (.slice (some ⟨b,0,none⟩) (l.length+m.length) c):=by
   have hlen:(l++m).length=l.length+m.length:=oJ
   have O:=fF.slice (F:=kh F b us.length us) (G:=ρ'.G) (n:=ρ'.n) (tag:=.hY) (l:=l++m) (b:=b) (o:=0) (base:=some ⟨b,0,none⟩) (cap:=c) (sz:=sz)
    (s.grow z.g) (zf F b us) (λ_=>rfl) J I VW hc (.inl rfl)
   rw[hlen] at O;rw[<-hlen];refine .cell (.loc (by rw[hlen];exact O) (by show _<=fN ρ.ag d (fr.ei d+1) d;simp[fN]) ?_);unfold su
   have e:ρ'.A d (fr.ei d+1)=some (b,c,sz):=by show rT ρ.A d (fr.ei d+1) (some (b,c,sz)) d (fr.ei d+1)=_;simp[rT]
   rw[e];exact⟨rfl,rfl,J⟩
  have h1:=(M.env.grow B).put (d:=some d) (by intro P he;injection he with he;subst he;rw[h.size];exact hd) N;exact h1
 ·intro k;show fN ρ.ag d (fr.ei d+1) k=fN fr.ei d (fr.ei d+1) k;unfold fN
  split
  ·rfl
  ·exact h.ag k
 ·intro P cs X;obtain⟨h1,h2,h3,vs',Y,h4,h5⟩:=M.box P cs X;exact⟨h1,by rw[q _ (by show R (ρ.L P (fr.gen P))≠_;rw[h2];simp)];exact h2,h3,vs',Y,h4,h5.mono λ_ _ _ h=>h.grow B⟩
 ·intro k m' r f c' Z C;simp only[grown,fN] at r
  by_cases u:k=d
  ·subst u;simp only[if_true,sy] at r;subst r
   have Q:(grown fr k tag l m).ei k=fr.ei k+1:=by simp[grown,fN]
   rw[Q] at C
   have D:ρ'.A k (fr.ei k+1)=some (b,c,sz):=by show rT ρ.A k (fr.ei k+1) (some (b,c,sz)) k (fr.ei k+1)=_;simp[rT]
   rw[D] at C;injection C with C;injection C with Q D;injection D with D e3;subst Q;subst D;subst e3;refine⟨hb,by show fN R b (.arr k) b=.arr k;simp[fN],⟨W,hp⟩,hc,⟨vs,ty,U,V,y⟩,λj hj=>?_⟩;show(if b=b/\j<us.length then us[j]?else F b j)=none;rw[cK VW];exact hF j
  ·simp only[cK u] at r
   have Q:(grown fr d tag l m).ei k=fr.ei k:=by simp[grown,fN,u]
   rw[Q] at C
   have D:ρ'.A k (fr.ei k)=ρ.A k (fr.ei k):=by show rT ρ.A d (fr.ei d+1) _ k (fr.ei k)=_;simp[rT,u]
   rw[D] at C
   have aa:fr.tm k=some m':=by
    unfold tY at r
    split at r
    ·simp only[fN] at r
     split at r
     ·cases r
     ·exact r
    ·exact r
   obtain⟨e3,e4,e5,ab,e6,e7⟩:=M.tok k m' aa f c' Z C;exact⟨e3,by rw[q _ (by rw[e4];simp)];exact e4,e5,ab,e6,e7⟩
 ·intro f j v hf
  by_cases i:f=b
  ·subst i;intro P;show fN R f (.arr d) f≠_;simp[fN]
  ·have e:K f=R f:=by show fN R b (.arr d) f=R f;simp[fN,i]
   rw[e];exact M.rf f j v hf
 ·intro o ho;have:=h.nE o ho;rw[q _ (by show R (ρ.G o)≠_;rw[this];simp)];exact this
 ·intro f i
  have S:f≠b:=by rintro rfl;have:=nY U;omega
  show fN R b (.arr d) f=.free;simp only[fN,cK S];exact h.lb f i
end
section
variable{P:Program} {T:dx} {n:Nat} {G0:Nat->Nat} {F0:jY} {n0:Nat} {w0:World} {fr:Fr} {H:cW} {a:Act} {w:World}
def CQ(w:World){t e:TypeId}{sz:Nat}(n:nT P t=some (e,sz))(ty:TypeId)(base:Option Addr)(a d:Nat)(f:List Value)(holds:f.length=a*sz)
  (B:base=none->a=0/\d=0) (C:∀k,base=some k->∀j v,f[j]?=some v->w.cell? (k.add j)=some v)
  (k:Addr) (m c:Nat) (news:List Value) (p:news.length=m*sz) (hn:∀j v,news[j]?=some v->w.cell? (k.add j)=some v) (l:d<a+m) (o:a+m<=ie):∃cap rest,a+m<=cap/\cap<=maxLen/\(∀u∈rest,u.oneCell'=true)/\(f++news++rest).length=cap*sz/\(Builtin.append_ #[t,t] ty #[.slice base a d,.slice (some k) m c]).run P w=.ok (.slice (some ⟨w.heap.size,0,none⟩) (a+m) cap) (w.drew.alloc (.cells (f++news++rest).toArray e)):=by
 obtain⟨i,z,hu,hi,q,r,s,x,A⟩:=nA n;subst s;have h:a+m<=1099511627776:=o
 have g:(a+m)*i.bytes<=140737488355328:=by
  have:=Ts h x;omega
 have CV:a+m<=maxLen:=by simp only[maxLen];omega
 have y:=grownCap_ge w (a+m) d e;have hle:=grownCap_le_maxLen w (a+m) d e CV;refine⟨grownCap w (a+m) d e,(Builtin.zeroCells z.cells (grownCap w (a+m) d e-(a+m))).toList,y,hle,vQ (K_ n hi q) VW _,?_,?_⟩
 ·simp only[oJ,Oi,size_zeroCells,r,holds,p,<-xu]
  congr 1
  omega
 ·have D:(f++news++(Builtin.zeroCells z.cells (grownCap w (a+m) d e-(a+m))).toList).toArray=f.toArray++news.toArray++Builtin.zeroCells z.cells (grownCap w (a+m) d e-(a+m)):=by
   apply Bt.1;simp
  rw[D];cases base with
  |some b=>
   exact run_append_grow w t ty e i z hu hi q b a d f holds (C b rfl) k m c news p hn l VW (growslice_fits l g)
  |none=>
   obtain⟨rfl,rfl⟩:=B rfl;have:f=[]:=Aa (by simpa using holds);subst this;simp only[r_] at l g h|-;have:=run_append_nil (P:=P) w t ty e i z hu hi q k m c news p hn VW VW VW;simpa using this
structure NQ (P:Program) (w:World) (t u e:TypeId) (sz k:Nat) (x:Value) (news:List Value) (ty:TypeId):Prop where
 none:k=0->∀(base:Option Addr) (len cap:Nat),len<=cap->(Builtin.append_ #[t,u] ty #[.slice base len cap,x]).run P w=.ok (.slice base len cap) w
 room:0<k->∀(g sLen sCap:Nat) (cur:Array Value) (e':TypeId),w.heap[g]?=some (.cells cur e' (0,0))->sLen+k<=sCap->sLen*sz+news.length<=cur.size->(Builtin.append_ #[t,u] ty #[.slice (some ⟨g,0,.none⟩) sLen sCap,x]).run P w=.ok (.slice (some ⟨g,0,.none⟩) (sLen+k) sCap) (w.setRow g (cur.toList.take (sLen*sz)++news++cur.toList.drop (sLen*sz+news.length)).toArray)
 grow:0<k->∀(base:Option Addr) (sLen sCap:Nat) (olds:List Value),olds.length=sLen*sz->(base=.none->sLen=0/\sCap=0)->(∀ad,base=some ad->∀j v,olds[j]?=some v->w.cell? (ad.add j)=some v)->sCap<sLen+k->sLen+k<=ie->∃cap rest,sLen+k<=cap/\cap<=maxLen/\(∀u∈rest,u.oneCell'=true)/\(olds++news++rest).length=cap*sz/\(Builtin.append_ #[t,u] ty #[.slice base sLen sCap,x]).run P w=.ok (.slice (some ⟨w.heap.size,0,.none⟩) (sLen+k) cap) (w.drew.alloc (.cells (olds++news++rest).toArray e))
def D8{ρ:Maps}{F:jY}{R:Nat->oM}(h:WR T n w0.heap.size ρ F R fr H a w)(hx:Ext w0.heap.size G0 F0 n0 w0 ρ.G F H.length w){d:Nat}{t u e ty:TypeId}{sz:Nat}{K:Fr->cW->Prop}{tag:Tag}{l m:List AV}{sv xv:Value}{B:List Value}
  (aE:nT P t=some (e,sz)) (aF:fG F ρ (.slice tag l) sv) (aG:jq sz l=true) (src:NQ P w t u e sz m.length xv B ty) (r:fq F ρ.G ρ.n (m.flatMap AV.cells) B) (s:∀y∈m.flatMap AV.cells,y.eD=true)
  (M:∀y∈m,y.cells.length=sz) (ak:l.length+m.length<=ie) (N:d<n)
  (hK:if oV fr tag l then K (grown fr d tag l m) H else m=[]/\K (fr.put (some d) (.slice .hY l)) H):∃v w' fr' H',(Builtin.append_ #[t,u] ty #[sv,xv]).run P w=.ok v w'/\K fr' H'/\SR T n G0 F0 n0 w0 fr' H' (a.put (some d) v) w':=by
 obtain⟨base,cap,b,o,aU,vs,aH,f,ae,an⟩:=m4 aF;rw[aH];obtain⟨i,z,hu,hi,hz,aV,aW,aX,aS⟩:=nA aE;have C:=qN aG f.sz;have D:fF F ρ.G ρ.n (.slice .hY l) (.slice base l.length cap):=.slice f.cells f.has f.base C f.qS f.xt f.CV (.inl rfl)
 split at hK
 ·rename_i J
  have O:tag=.full/\cap=l.length\/∃k g,tag=.loc k g/\g=fr.ei k/\fr.tm k=some l.length/\su ρ k g l base cap:=by
   unfold oV at J
   split at J
   ·cases J
   ·exact .inl ⟨rfl,ae rfl⟩
   ·rename_i k g;simp only[ft,O8] at J;exact .inr ⟨k,g,rfl,J.1,J.2,(an k g rfl).2⟩
  by_cases hm:m=[]
  ·subst hm;obtain⟨ρ',R',hG,_,_,_,hw⟩:=h.rename N D O;refine⟨_,_,_,_,src.none rfl _ _ _ f.xt,hK,ρ',F,R',?_,by rw[hG];exact hx⟩;exact hw
  ·have Q:B.length=m.length*sz:=by rw[<-r.length,nI M]
   have I:vs.length=l.length*sz:=by rw[<-f.cells.length,nI C]
   have S:0<m.length:=EX.2 hm
   by_cases E:l.length+m.length<=cap
   ·--in place
    rcases O with⟨rfl,hc⟩|⟨k,g,rfl,hg,ht,Y⟩
    ·omega
    ·have L:=Y;unfold su at L;cases W:ρ.A k g with
     |none=>rw[W] at L;simp only at L;omega
     |some p=>
      obtain⟨b3,c3,x⟩:=p;rw[W] at L;simp only at L;obtain⟨rfl,rfl,aI⟩:=L;rw[hg] at W;obtain⟨t1,t2,t3,aY,⟨cur,aJ,t4,t5,aZ⟩,t6⟩:=h.tok k _ ht b3 cap x W;have af:∀u∈B,u.oneCell'=true:=iT (r.sF.mono λ_ _ _ h=>iL.p h) s
      have Z:l≠[]:=by rintro rfl;exact absurd t3.1 aa4
      have aq:x=sz:=by
       cases l with
       |nil=>exact absurd rfl Z|cons y ys=>rw[<-aI y aa4,C y aa4]
      subst aq;obtain⟨ρ',R',hG,ar,aw,ax,hw⟩:=h.rename N D (tag:=.loc k g) (.inr ⟨k,g,rfl,hg,ht,Y⟩)
      have ah:ρ'.A d ((grown fr d (.loc k g) l []).ei d)=some (b3,cap,x):=by
       have e:(grown fr d (.loc k g) l []).ei d=fr.ei d+1:=by simp[grown,fN]
       rw[e,aw k g rfl,hg];exact W
      have ay:(grown fr d (.loc k g) l []).tm d=some l.length:=by simp[grown,fN]
      obtain⟨F',az,X,aA,aK⟩:=hw.extend ay ah Q E af t4
      have aL:b=b3/\o=0:=by
       have:=f.base Z;injection this with this;injection this with e1 e2;exact⟨e1.symm,e2.symm⟩
      obtain⟨rfl,rfl⟩:=aL
      have U:=src.room S b l.length cap cur aJ t4 E (by
       rw[Q,<-xu,t5];exact CP _ E)
      have aB:fG F' ρ' (.slice (.loc d (fr.ei d+1)) (l++m)) (.slice (some ⟨b,0,none⟩) (l.length+m.length) cap):=by
       have hlen:(l++m).length=l.length+m.length:=oJ
       have aC:F'.has b 0 (vs++B):=by
        intro q v V;rcases qu q vs.length with hq|hq
        ·rw[p4 hq] at V;exact az.g.mF _ _ _ (f.has q v V)
        ·rw[wc hq] at V;have:=aA _ v V;rw[I] at hq this;rw[show l.length*x+(q-l.length*x)=0+q by omega] at this;exact this
       have aa:∀y∈l++m,y.cells.length=x:=by
        intro y hy;rcases qA.1 hy with hy|hy
        ·exact C y hy
        ·exact M y hy
       have aM:=fF.slice (F:=F') (G:=ρ'.G) (n:=ρ'.n) (tag:=.hY) (l:=l++m) (b:=b) (o:=0) (base:=some ⟨b,0,none⟩) (cap:=cap) (sz:=x) (vs:=vs++B)
        (by
         rw[WS,hG,ar];have aD:=az.g;rw[hG,ar] at aD
         exact(f.cells.append r).grow aD) aC (λ_=>rfl) aa (by
         intro y hy;rw[WS] at hy;rcases qA.1 hy with hy|hy
         ·exact f.qS y hy
         ·exact s y hy) VW f.CV (.inl rfl)
       rw[<-hlen];refine .cell (.loc aM (by rw[ax];exact gu _) ?_);unfold su
       have e:ρ'.A d (fr.ei d+1)=some (b,cap,x):=by rw[aw k g rfl,hg];exact W
       rw[e];exact⟨rfl,rfl,aa⟩
      have ab:=aK.put (d:=some d) (λ_ hh=>by cases hh;exact N) aB;refine⟨_,_,_,_,U,hK,ρ',F',R',?_,?_⟩
      ·have e1:({(grown fr d (.loc k g) l [])with tm:=fN (grown fr d (.loc k g) l []).tm d (some (l.length+m.length))}:Fr).put (some d) (.slice (.loc d (fr.ei d+1)) (l++m))=grown fr d (.loc k g) l m:=by
        simp only[grown,Fr.put,Kh]
       have e2:(a.put (some d) (.slice (some ⟨b,0,none⟩) l.length cap)).put (some d) (.slice (some ⟨b,0,none⟩) (l.length+m.length) cap)=a.put (some d) (.slice (some ⟨b,0,none⟩) (l.length+m.length) cap):=by
        simp[Act.put]
       rw[e1,e2] at ab;exact ab
      ·rw[hG];exact(hx.setRow (.inl t1) _).freeze λb' j aN=>X b' j VW
   ·--a new row
    have aO:base=none->l.length=0/\cap=0:=by
     rintro rfl
     have ai:l=[]:=by
      rcases V_ l with h'|⟨_,_,h'⟩
      ·exact h'
      ·have:=f.base (by rw[h'];simp);cases this
     subst ai;refine⟨rfl,?_⟩;rcases O with⟨_,hc⟩|⟨k,g,rfl,hg,ht,Y⟩
     ·simpa using hc
     ·unfold su at Y;cases W:ρ.A k g with
      |none=>rw[W] at Y;simpa using Y
      |some p=>
       obtain⟨b3,c3,x⟩:=p;rw[W] at Y;cases Y.1
    have aP:∀ad,base=some ad->∀(j:Nat) (v:Value),vs[j]?=some v->w.cell? (ad.add j)=some v:=by
     intro ad aQ j v V
     have ai:l≠[]:=by
      rintro rfl;have:vs=[]:=Aa (by rw[I];simp);subst this;simp at V
     have:=f.base ai;rw[aQ] at this;injection this with this;subst this;rw[Addr.add_lit];exact h.g.BF b _ v (f.has j v V)
    obtain⟨c',rest,r1,r2,r0,r3,U⟩:=src.grow S base l.length cap vs I aO aP VW ak;have aR:=h.drew.alloc (.cells (vs++B++rest).toArray e);have aT:w.drew.heap.size=w.heap.size:=rfl
    obtain⟨ρ',R',hG,hw⟩:=aR.Tc (b:=w.heap.size) (us:=vs++B) (c:=c') (sz:=sz) (tag:=tag) (l:=l) (m:=m) N h.qT (h.lb _ (gu _)) (λj=>h.g.fresh _ j (gu _))
     (heap_alloc_new w.drew _) (by
      intro u hu;simp only[qA] at hu;rcases hu with(hu|hu)|hu
      ·exact iT (f.cells.sF.mono λ_ _ _ h=>iL.p h) f.qS u hu
      ·exact iT (r.sF.mono λ_ _ _ h=>iL.p h) s u hu
      ·exact r0 u hu) (by simpa using r3) VW r1 r2 (by rw[oJ,I,Q,xu]) (by
      intro j v V;have hj:=(kj.1 V).1;simp only[QX];rw[p4 hj]
      exact V) (by rw[WS];exact f.cells.append r) (by
      intro y hy;rw[WS] at hy;rcases qA.1 hy with hy|hy
      ·exact f.qS y hy
      ·exact s y hy) (by
      intro y hy;rcases qA.1 hy with hy|hy
      ·exact C y hy
      ·exact M y hy)
    refine⟨_,_,_,_,U,hK,ρ',_,R',hw,?_⟩;rw[hG];exact((hx.drew.alloc h.qT _).freeze λb' j aN=>vO (by have:=h.qT;omega))
 ·obtain⟨rfl,hK⟩:=hK;refine⟨_,_,_,_,src.none rfl _ _ _ f.xt,hK,ρ,F,R,?_,hx⟩;exact h.put (λ_ hh=>by cases hh;exact N) (.p D)
def J3{t e:TypeId}{sz:Nat}(f:nT P t=some (e,sz))(ty:TypeId){base:Option Addr}{m cap b o:Nat}{news:List Value}(y:0<m->base=some ⟨b,o,none⟩)(A:news.length=m*sz)
  (hn:∀j v,news[j]?=some v->w.cell? ((⟨b,o,none⟩:Addr).add j)=some v) (h1:∀u∈news,u.oneCell'=true):NQ P w t t e sz m (.slice base m cap) news ty where
 none C a len k D:=Ey w f ty a len k D _ ⟨base,cap,by rw[C]⟩
 room q g c d cur E hg h l:=by
  obtain⟨i,z,hu,hi,I,F,r,G,B⟩:=nA f;subst r;rw[y q];exact wE (P:=P) w t ty e E i hu hi g c d cur hg ⟨b,o,.none⟩ m cap news A hn h1 h l
 grow q a c d n holds s H x p:=by
  rw[y q];exact CQ w f ty a c d n holds s H ⟨b,o,.none⟩ m cap news A hn x p
def JX{ρ:Maps}{F:jY}{R:Nat->oM}(h:WR T n w0.heap.size ρ F R fr H a w)(Q:Ext w0.heap.size G0 F0 n0 w0 ρ.G F H.length w){c:Call}{dst:Option Nat}{ty:TypeId}{K:Fr->cW->Prop}
  (k:mO P T c dst K fr H) (hd:∀d,dst=some d->d<n) (r:∀x∈c.args.toList,iD x=true):∃v w' fr' H',(Builtin.append_ c.argTypes ty (c.args.map a.eval)).run P w=.ok v w'/\K fr' H'/\SR T n G0 F0 n0 w0 fr' H' (a.put dst v) w':=by
 unfold mO at k
 split at k
 ·rename_i d s x t S i u;have C:=hd d rfl;have U:c.argTypes=#[t,S]:=Bt.1 (by rw[u]);have V:c.args.map a.eval=#[a.eval s,a.eval x]:=Bt.1 (by rw[LA,i];rfl);rw[U,V];have y:=fI h.env h.gH s (r s (by rw[i];simp));have z:=fI h.env h.gH x (r x (by rw[i];simp))
  split at k
  ·rename_i e sz tag l M m A hs D;obtain⟨rfl,E,I,B,k⟩:=k;rw[hs] at y;rw[D] at z;obtain⟨J,N,O,o2,W,X,L,f,_,_⟩:=m4 z;have q:=qN I f.sz;rw[L]
   exact D8 h Q A y E (J3 A ty (b:=O) (o:=o2) (λY=>f.base (EX.1 Y)) (by rw[<-f.cells.length,nI q]) (λj v Z=>by
    rw[Addr.add_lit]
    exact h.g.BF O _ v (f.has j v Z)) (iT (f.cells.sF.mono λ_ _ _ h=>iL.p h) f.qS)) f.cells f.qS q B C k
  ·exact k.elim
 ·exact k.elim
def pY(s:ByteArray):List AV:=s.data.toList.map λb=>AV.sc (.int .u8 (b.toNat:Int))
def BA(P:Program)(T:dx)(c:Call)(dst:Option Nat)(K:Fr->cW->Prop)(fr:Fr)(H:cW):Prop:=
 match dst,c.args.toList,c.argTypes.toList with
 |some d,[s,x],[t,a]=>
  match nT P t,P.underlying a,ev T fr s,ev T fr x with
  |some (_,sz),some .string,.slice tag l,.sc (.string y)=>
   sz=1/\jq 1 l=true/\l.length+y.size<=ie/\(if oV fr tag l then K (grown fr d tag l (pY y)) H else pY y=[]/\K (fr.put (some d) (.slice .hY l)) H)
  |_,_,_,_=>False
 |_,_,_=>False
def Nw{t u e:TypeId}(j:nT P t=some (e,1))(d:P.underlying u=some .string)(ty:TypeId)(s:ByteArray):NQ P w t u e 1 s.size (.string s) (Lib.strCells s) ty where
 none q base len cap C:=by
  obtain⟨i,z,hu,hi,r,m,k,n,l⟩:=nA j;have v:=Lib.run_firstCells_string (P:=P) w i.size s;have hn:Lib.strCells s=[]:=Aa (by rw[Lib.strCells_length];exact q);rw[q,hn] at v;cases base with
  |none=>simp[Builtin.append_,run_underlying hu,run_underlying d,sizeOf,typeInfo,hi,Builtin.lenOf,q,C,v]|some K=>simp[Builtin.append_,run_underlying hu,run_underlying d,sizeOf,typeInfo,hi,Builtin.lenOf,q,C,v,storeCells]
 room E g a c cur F hg o x:=by
  obtain⟨i,z,hu,hi,r,m,k,n,l⟩:=nA j;have v:=Lib.run_firstCells_string (P:=P) w 1 s;have y:=run_storeCells_at P g (a*1) F (Lib.strCells s) 0 cur w hg (by simpa using x) (Lib.strCells_oneCell s);simp only[ER,V7] at y;simp[Builtin.append_,run_underlying hu,run_underlying d,sizeOf,typeInfo,hi,k,Builtin.lenOf,o,v,Addr.add_lit,y]
 grow E base a c f holds G H A B:=by
  obtain⟨i,z,hu,hi,r,m,k,n,l⟩:=nA j;have p:a+s.size<=1099511627776:=B
  have h:(a+s.size)*i.bytes<=140737488355328:=by
   have:=Ts p n;omega
  have CV:a+s.size<=maxLen:=by simp only[maxLen];omega
  refine⟨grownCap w (a+s.size) c e,(Builtin.zeroCells z.cells (grownCap w (a+s.size) c e-(a+s.size))).toList,grownCap_ge w (a+s.size) c e,grownCap_le_maxLen w (a+s.size) c e CV,vQ (K_ j hi r) VW _,?_,?_⟩
  ·have:=grownCap_ge w (a+s.size) c e;simp only[oJ,Oi,size_zeroCells,m,holds,Lib.strCells_length];omega
  ·have I:(f++Lib.strCells s++(Builtin.zeroCells z.cells (grownCap w (a+s.size) c e-(a+s.size))).toList).toArray=f.toArray++(Lib.strCells s).toArray++Builtin.zeroCells z.cells (grownCap w (a+s.size) c e-(a+s.size)):=by
    apply Bt.1;simp
   rw[I];cases base with
   |some b=>exact Lib.run_append_grow_string w t u ty e i z hu d hi r b a c f (by rw[k];exact holds) (H b rfl) s A VW (growslice_fits A h)|none=>
    obtain⟨rfl,rfl⟩:=G rfl;have q:f=[]:=Aa (by simpa using holds);subst q;have D:=run_append_nil_string (P:=P) w t u ty e i z hu d hi r s VW VW (by rw[r_] at h;omega)
    have J:(s.data.map λb=>Value.int .u8 b.toNat)=(Lib.strCells s).toArray:=by
     apply Array.ext';simp[Lib.strCells]
    rw[J] at D;simpa using D
def AB(s:ByteArray):(pY s).flatMap AV.cells=(Lib.strCells s).map AV.sc:=by
 unfold pY Lib.strCells
 induction s.data.toList with
 |nil=>rfl|cons b l a=>simp only[wb,vP,a];rfl
def ur{F:jY}{G:Nat->Nat}{k:Nat}:∀(L:List Value),(∀v∈L,z7 v=true)->fq F G k (L.map AV.sc) L
 |[],_=>.nil|v::L,h=>.cons (.sc (h v aa4)) (ur L λx a=>h x (by simp[a]))
def H9{ρ:Maps}{F:jY}{R:Nat->oM}(h:WR T n w0.heap.size ρ F R fr H a w)(B:Ext w0.heap.size G0 F0 n0 w0 ρ.G F H.length w){c:Call}{dst:Option Nat}{ty:TypeId}{K:Fr->cW->Prop}
  (g:BA P T c dst K fr H) (hd:∀d,dst=some d->d<n) (i:∀x∈c.args.toList,iD x=true):∃v w' fr' H',(Builtin.append_ c.argTypes ty (c.args.map a.eval)).run P w=.ok v w'/\K fr' H'/\SR T n G0 F0 n0 w0 fr' H' (a.put dst v) w':=by
 unfold BA at g
 split at g
 ·rename_i d s x t C f j;have u:=hd d rfl;have D:c.argTypes=#[t,C]:=Bt.1 (by rw[j]);have E:c.args.map a.eval=#[a.eval s,a.eval x]:=Bt.1 (by rw[LA,f];rfl);rw[D,E];have k:=fI h.env h.gH s (i s (by rw[f];simp));have m:=fI h.env h.gH x (i x (by rw[f];simp))
  split at g
  ·rename_i e sz tag l y o p hs z;obtain⟨rfl,A,q,g⟩:=g;rw[hs] at k;rw[z] at m;rw[fh m]
   have hlen:(pY y).length=y.size:=by simp[pY]
   have I:fq F ρ.G ρ.n ((pY y).flatMap AV.cells) (Lib.strCells y):=by
    rw[AB];refine ur _ λv J=>?_;obtain⟨b,_,rfl⟩:=l8.1 J;rfl
   have L:∀c∈(pY y).flatMap AV.cells,c.eD=true:=λc r=>by
    rw[AB] at r;obtain⟨v,_,rfl⟩:=l8.1 r;rfl
   have c3:∀c∈pY y,c.cells.length=1:=λc r=>by
    obtain⟨b,_,rfl⟩:=l8.1 r;rfl
   exact D8 h B o k A (by rw[hlen];exact Nw o p ty y) I L c3 (by rw[hlen];exact q) u g
  ·exact g.elim
 ·exact g.elim
end
end Go.ke
namespace Go.ke
open Go
def js(P:Program)(t:TypeId):Option (List AV):=
 match zeroOf P t with
 |some z=>if zG z=true/\dY (ofValue z) then some (ofValue z).cells else none|none=>none
def IH{P:Program}{t:TypeId}{cs:List AV}(h:js P t=some cs):∃z,zeroOf P t=some z/\zG z=true/\dY (ofValue z)=true/\cs=(ofValue z).cells:=by
 unfold js at h
 split at h
 ·rename_i z b
  split at h
  ·rename_i a;injection h with h;exact⟨z,b,a.1,a.2,h.symm⟩
  ·cases h
 ·cases h
def xI(fr:Fr)(d:Nat)(cells:List AV)(len cap:Nat):Fr:=
 {fr with env:=fN fr.env d (.vM d (fr.gen d+1) len cap),box:=fN fr.box d (some cells),gen:=fN fr.gen d (fr.gen d+1)}
def uq(n:Nat):List AV:=List.replicate n .undef
def Cw(P:Program)(T:dx)(c:Call)(dst:Option Nat)(K:Fr->cW->Prop)(fr:Fr)(H:cW):Prop:=
 match dst,c.args.toList,c.argTypes.toList with
 |some d,[s,x],[t,f]=>
  match nT P t,ev T fr x with
  |some (e,sz),.slice _ m=>
   f=t/\jq sz m=true/\(js P e).isSome=true/\0<m.length/\match ev T fr s with
   |.slice .full l=>jq sz l=true/\l.length+m.length<=ie/\∀cap,l.length+m.length<=cap->K (xI fr d (l.flatMap AV.cells++m.flatMap AV.cells++uq ((cap-(l.length+m.length))*sz)) (l.length+m.length) cap) H|.vM b g len cap=>g=fr.gen b/\len+m.length<=ie/\match fr.box b with
    |some cs=>cs.length=cap*sz/\(len+m.length<=cap->K {fr with env:=fN fr.env d (.vM b g (len+m.length) cap),box:=fN fr.box b (some (setCells cs (len*sz) (m.flatMap AV.cells)))} H)/\(∀a,cap<len+m.length->len+m.length<=a->K (xI fr d (cs.take (len*sz)++m.flatMap AV.cells++uq ((a-(len+m.length))*sz)) (len+m.length) a) H)|none=>False
   |_=>False
  |_,_=>False
 |_,_,_=>False
section
variable{P:Program} {T:dx} {n:Nat} {G0:Nat->Nat} {F0:jY} {n0:Nat} {w0:World} {fr:Fr} {H:cW} {a:Act} {w:World}
def Mc{e:TypeId}(h:(js P e).isSome=true){i:TypeInfo}{z:Value}(hi:P.info? e=some i)(c:i.zero=some z):∀u∈z.cells.toList,u.oneCell'=true:=by
 cases b:js P e with
 |none=>rw[b] at h;cases h
 |some cs=>
  obtain⟨d,a,h1,f,_⟩:=IH b
  have:d=z:=by
   unfold zeroOf at a;rw[hi] at a;simp only[TB,c] at a;exact(gh a).symm
  subst this;exact(As h1 (λvs g=>by subst g;simp[ofValue,dY] at f)).2
def nd(w:World){t e:TypeId}{sz:Nat}(o:nT P t=some (e,sz))(p:(js P e).isSome=true)(ty:TypeId)(base:Option Addr)(a d:Nat)(f:List Value)(holds:f.length=a*sz)
  (C:base=none->a=0/\d=0) (D:∀k,base=some k->∀j v,f[j]?=some v->w.cell? (k.add j)=some v)
  (k:Addr) (m c:Nat) (news:List Value) (A:news.length=m*sz) (hn:∀j v,news[j]?=some v->w.cell? (k.add j)=some v) (l:d<a+m) (n:a+m<=ie):∃cap rest,a+m<=cap/\cap<=maxLen/\rest.length=(cap-(a+m))*sz/\(∀u∈rest,u.oneCell'=true)/\(Builtin.append_ #[t,t] ty #[.slice base a d,.slice (some k) m c]).run P w=.ok (.slice (some ⟨w.heap.size,0,none⟩) (a+m) cap) (w.drew.alloc (.cells (f++news++rest).toArray e)):=by
 obtain⟨i,z,hu,hi,q,r,s,x,B⟩:=nA o;subst s;have h:a+m<=1099511627776:=n
 have g:(a+m)*i.bytes<=140737488355328:=by
  have:=Ts h x;omega
 have CV:a+m<=maxLen:=by simp only[maxLen];omega
 have y:=grownCap_ge w (a+m) d e;have hle:=grownCap_le_maxLen w (a+m) d e CV;refine⟨grownCap w (a+m) d e,(Builtin.zeroCells z.cells (grownCap w (a+m) d e-(a+m))).toList,y,hle,?_,vQ (Mc p hi q) VW _,?_⟩
 ·simp only[Oi,size_zeroCells,r]
 ·have E:(f++news++(Builtin.zeroCells z.cells (grownCap w (a+m) d e-(a+m))).toList).toArray=f.toArray++news.toArray++Builtin.zeroCells z.cells (grownCap w (a+m) d e-(a+m)):=by
   apply Bt.1;simp
  rw[E];cases base with
  |some b=>
   exact run_append_grow w t ty e i z hu hi q b a d f holds (D b rfl) k m c news A hn l VW (growslice_fits l g)
  |none=>
   obtain⟨rfl,rfl⟩:=C rfl;have:f=[]:=Aa (by simpa using holds);subst this;simp only[r_] at l g h|-;have:=run_append_nil (P:=P) w t ty e i z hu hi q k m c news A hn VW VW VW;simpa using this
def G5{F:jY}{ρ:Maps}:∀{rest:List Value} {k:Nat},rest.length=k->(∀u∈rest,u.oneCell'=true)->f_ (iL F ρ) (uq k) rest
 |[],k,h,_=>by cases h;exact .nil
 |u::rest,k,h,h1=>by
  cases h;show f_ _ (List.replicate (rest.length+1) AV.undef) _;rw[Xi];exact .cons (.p (.undef (h1 u aa4))) (G5 rfl λv a=>h1 v (by simp[a]))
def wN(k:Nat):∀c∈uq k,c.eD=true:=by
 intro c a;rw[List.eq_of_mem_replicate a];rfl
def WR.S2{ρ:Maps}{F:jY}{R:Nat->oM}(h:WR T n w0.heap.size ρ F R fr H a w)(o:Ext w0.heap.size G0 F0 n0 w0 ρ.G F H.length w){d len cap:Nat}(hd:d<n){cells:List AV}{vs:Array Value}(ty:TypeId)
  (k:f_ (iL F ρ) cells vs.toList) (f:∀c∈cells,c.eD=true) (hlen:len<=cap) (xt:cap<=maxLen):SR T n G0 F0 n0 w0 (xI fr d cells len cap) H (a.put (some d) (.slice (some ⟨w.heap.size,0,none⟩) len cap)) (w.drew.alloc (.cells vs ty)):=by
 have p:=h.drew.alloc (.cells vs ty);have i:(w.drew.alloc (.cells vs ty)).heap[w.drew.heap.size]?=some (.cells vs ty (0,0)):=heap_alloc_new w.drew _;have q:w.drew.heap.size=w.heap.size:=rfl;have e:R w.drew.heap.size=.free:=h.lb _ (gu _);have hF:∀j,F w.drew.heap.size j=none:=λj=>h.g.fresh _ j (gu _);obtain⟨ρ',r,hG,hw⟩:=p.VQ h.qT e hF i k f hd;have s:=hw.box d cells (by simp[fN])
 have t:ρ'.L d (fr.gen d+1)=w.heap.size:=by
  have he:=hw.env d
  have l:({fr with env:=fN fr.env d (.fC d (fr.gen d+1) 0),box:=fN fr.box d (some cells),gen:=fN fr.gen d (fr.gen d+1)}:Fr).env d=.fC d (fr.gen d+1) 0:=by simp[fN]
  rw[l,LW a (some d) _ d (by intro u he;injection he with he;subst he;rw[h.size];exact hd),cO rfl] at he;have:=(w8 he).1;injection this with this;injection this with this;injection this with this;exact this.symm
 have m:fr.gen d+1<=ρ'.lg d:=by
  rw[hw.lg d];simp[fN]
 have jt:=hw.put (d:=some d) (by intro u he;injection he with he;subst he;exact hd) (x:=.vM d (fr.gen d+1) len cap) (v:=.slice (some ⟨w.heap.size,0,none⟩) len cap) (by
  have:=iL.vM (F:=F) (ρ:=ρ') (b:=d) (g:=fr.gen d+1) m hlen xt;rw[t] at this
  exact .cell this)
 refine⟨ρ',F,r,?_,?_⟩
 ·have l:(({fr with env:=fN fr.env d (.fC d (fr.gen d+1) 0),box:=fN fr.box d (some cells),gen:=fN fr.gen d (fr.gen d+1)}:Fr).put (some d) (.vM d (fr.gen d+1) len cap))=xI fr d cells len cap:=by
   simp only[xI,Fr.put,Kh]
  have y:(a.put (some d) (.pointer (some ⟨w.heap.size,0,none⟩))).put (some d) (.slice (some ⟨w.heap.size,0,none⟩) len cap)=a.put (some d) (.slice (some ⟨w.heap.size,0,none⟩) len cap):=by
   simp[Act.put]
  rw[l,y] at jt;exact jt
 ·rw[hG];exact(o.drew).alloc h.qT _
def Ie{ρ:Maps}{F:jY}{R:Nat->oM}(h:WR T n w0.heap.size ρ F R fr H a w)(hx:Ext w0.heap.size G0 F0 n0 w0 ρ.G F H.length w){c:Call}{dst:Option Nat}{ty:TypeId}{K:Fr->cW->Prop}
  (y:Cw P T c dst K fr H) (hd:∀d,dst=some d->d<n) (an:∀x∈c.args.toList,iD x=true):∃v w' fr' H',(Builtin.append_ c.argTypes ty (c.args.map a.eval)).run P w=.ok v w'/\K fr' H'/\SR T n G0 F0 n0 w0 fr' H' (a.put dst v) w':=by
 unfold Cw at y
 split at y
 ·rename_i d s x t t' A aq;have V:=hd d rfl;have e1:c.argTypes=#[t,t']:=Bt.1 (by rw[aq]);have e2:c.args.map a.eval=#[a.eval s,a.eval x]:=Bt.1 (by rw[LA,A];rfl);rw[e1,e2];have Q:=fI h.env h.gH s (an s (by rw[A];simp));have ar:=fI h.env h.gH x (an x (by rw[A];simp))
  split at y
  ·rename_i e sz aR m W aD;obtain⟨rfl,aE,aw,X,y⟩:=y;rw[aD] at ar;obtain⟨aF,D,b2,o2,aV,k,aG,f,_,_⟩:=m4 ar;have hm:m≠[]:=EX.1 X;have ax:=qN aE f.sz;have S:=f.base hm
   have B:∀j v,k[j]?=some v->w.cell? ((⟨b2,o2,none⟩:Addr).add j)=some v:=by
    intro j v O;rw[Addr.add_lit];exact h.g.BF b2 _ v (f.has j v O)
   have E:k.length=m.length*sz:=by rw[<-f.cells.length,nI ax]
   have I:f_ (iL F ρ) (m.flatMap AV.cells) k:=f.cells.sF.mono λ_ _ _ h=>.p h;have Y:∀u∈k,u.oneCell'=true:=iT I f.qS;obtain⟨i,z,hu,hi,hz,aW,Z,aX,aS⟩:=nA W;rw[aG,S]
   split at y
   ·--a new row
    rename_i l hs;obtain⟨aH,J,y⟩:=y;rw[hs] at Q;obtain⟨base,cap,b,o,aY,vs,aa,C,ab,_⟩:=m4 Q;rw[aa];have xt:cap=l.length:=ab rfl;have ay:=qN aH C.sz
    have U:vs.length=l.length*sz:=by rw[<-C.cells.length,nI ay]
    have aI:base=none->l.length=0/\cap=0:=by
     rintro rfl
     have aJ:l=[]:=by
      rcases V_ l with h'|⟨_,_,h'⟩
      ·exact h'
      ·have:=C.base (by rw[h'];simp);cases this
     subst aJ;exact⟨rfl,xt⟩
    have ho:∀ad,base=some ad->∀j v,vs[j]?=some v->w.cell? (ad.add j)=some v:=by
     intro ad ae j v O
     have az:l≠[]:=by
      rintro rfl;have:vs=[]:=Aa (by simpa using U);rw[this] at O;simp at O
     have:=C.base az;rw[ae] at this;obtain rfl:=gh this;rw[Addr.add_lit];exact h.g.BF b _ v (C.has j v O)
    obtain⟨M,rest,N,af,ah,ai,q⟩:=nd w W aw ty base l.length cap vs U aI ho ⟨b2,o2,none⟩ m.length D k E B VW J;refine⟨_,_,_,_,q,y M N,h.S2 hx V e ?_ ?_ N af⟩
    ·simp only;exact((C.cells.sF.mono λ_ _ _ h=>iL.p h).append I).append (G5 ah ai)
    ·intro c hc;simp only[qA] at hc;rcases hc with(hc|hc)|hc
     ·exact C.qS c hc
     ·exact f.qS c hc
     ·exact wN _ c hc
   ·--a row of aZ aA own
    rename_i b g len cap hs;obtain⟨hg,J,y⟩:=y;rw[hs] at Q;obtain⟨aa,aK,aL,aM⟩:=zt Q;rw[aa]
    split at y
    ·rename_i cs hb;obtain⟨aN,aO,aP⟩:=y;obtain⟨b1,aQ,b3,cur,Yt,b4,b5⟩:=h.box b cs hb;rw[<-hg] at b1 aQ b4
     have aT:cur.size=cap*sz:=by rw[<-aN];simpa using b5.length.symm
     have hle:len*sz<=cap*sz:=CP _ aL
     by_cases r:len+m.length<=cap
     ·have aU:len*sz+m.length*sz<=cap*sz:=by rw[<-xu];exact CP _ r
      have q:=wE (P:=P) w t' ty e Yt i hu hi (ρ.L b g) len cap cur b4 ⟨b2,o2,none⟩ m.length D k (by rw[Z];exact E) B Y r (by rw[Z];omega);rw[Z] at q;have dH:=b5.setCells I (len*sz);have aB:(m.flatMap AV.cells).length=k.length:=I.length
      have ak:∀c∈setCells cs (len*sz) (m.flatMap AV.cells),c.eD=true:=by
       intro c hc;simp only[setCells,qA] at hc;rcases hc with(hm|hm)|hm
       ·exact b3 c (Ab hm)
       ·exact f.qS c hm
       ·exact b3 c (EL hm)
      have aC:=h.S0 hb (vs':=(cur.toList.take (len*sz)++k++cur.toList.drop (len*sz+k.length)).toArray) (by rw[<-aB];simpa[aB] using dH) ak;rw[<-hg] at aC;have jt:=aC.put (d:=some d) (by intro d' he;injection he with he;subst he;exact V) (x:=.vM b g (len+m.length) cap) (v:=.slice (some ⟨ρ.L b g,0,none⟩) (len+m.length) cap) (.cell (.vM aK r aM));refine⟨_,_,_,_,q,aO r,ρ,F,R,jt,hx.setRow (.inl b1) _⟩
     ·have ho:∀ad,some (⟨ρ.L b g,0,none⟩:Addr)=some ad->∀j v,(cur.toList.take (len*sz))[j]?=some v->w.cell? (ad.add j)=some v:=by
       intro ad ae j v O;obtain rfl:=gh ae;rw[Addr.add_lit,r_,cell_of_row w _ _ cur Yt (0,0) b4];rw[DG] at O
       split at O
       ·simpa using O
       ·cases O
      obtain⟨M,rest,N,af,ah,ai,q⟩:=nd w W aw ty (some ⟨ρ.L b g,0,none⟩) len cap (cur.toList.take (len*sz)) aa_ (by intro h;cases h) ho ⟨b2,o2,none⟩ m.length D k E B VW J;refine⟨_,_,_,_,q,aP M VW N,h.S2 hx V e ?_ ?_ N af⟩
      ·simp only;exact((b5.take _).append I).append (G5 ah ai)
      ·intro c hc;simp only[qA] at hc;rcases hc with(hc|hc)|hc
       ·exact b3 c (Ab hc)
       ·exact f.qS c hc
       ·exact wN _ c hc
    ·exact y.elim
   ·exact y.elim
  ·exact y.elim
 ·exact y.elim
end
end Go.ke
namespace Go.ke
open Go Go.MapKept
def Fq:TypeDesc->Value->Bool
 |.bool,.bool _=>true|.int k,.int k' _=>k'==k|.string,.string _=>true|_,_=>false
def SY:Value->Value->Bool
 |.bool a,.bool b=>a==b|.int _ a,.int _ b=>a==b|.string a,.string b=>a==b|_,_=>false
def ux{d:TypeDesc}{v:Value}(h:Fq d v=true):IsKey d v:=by
 unfold Fq at h
 split at h<;>simp_all [IsKey]
def DO{d:TypeDesc}{a b:Value}(c:IsKey d a)(e:IsKey d b):SY a b=true↔a=b:=by
 cases d<;>cases a<;>cases b<;>simp_all [IsKey,SY,bytes_beq]
def mapIdx(ks:List Value)(k:Value):Option Nat:=ks.findIdx? (λx=>SY x k)
def yH{d:TypeDesc}{k:Value}(f:IsKey d k):∀{ks:List Value} {j:Nat},(∀x∈ks,IsKey d x)->ks.Nodup->ks[j]?=some k->mapIdx ks k=some j
 |[],j,_,_,h=>by simp at h
 |x::ks,j,a,hn,h=>by
  have b:=a x aa4;unfold mapIdx;rw[Q5];cases j with
  |zero=>
   simp at h;subst h;rw[cO ((DO b b).2 rfl)]
  |succ j=>
   simp at h
   have c:x≠k:=by
    rintro rfl;exact(XX.1 hn).1 (z6 h)
   rw[cK (λe=>c ((DO b f).1 e))];have:=yH f (λy hy=>a y (by simp[hy])) (XX.1 hn).2 h;unfold mapIdx at this;rw[this];rfl
def yT{d:TypeDesc}{k:Value}(b:IsKey d k):∀{ks:List Value},(∀x∈ks,IsKey d x)->(∀x∈ks,x≠k)->mapIdx ks k=none
 |[],_,_=>rfl|x::ks,a,h=>by
  unfold mapIdx;rw[Q5,cK (λe=>h x aa4 ((DO (a x aa4) b).1 e))];have:=yT b (ks:=ks) (λy hy=>a y (by simp[hy])) (λy hy=>h y (by simp[hy]));unfold mapIdx at this;rw[this];rfl
def L8(P:Program)(t:TypeId):Option AV:=
 match zeroOf P t with
 |some z=>if zG z=true/\dY (ofValue z) then some (ofValue z).norm else none|none=>none
def tT(P:Program)(H:cW)(t:TypeId)(x i:AV)(ok:Bool):Option AV:=
 match P.underlying t,x,i with
 |some (.map kt e),.mU o,.sc k=>
  match P.underlying kt,H[o]?,L8 P e with
  |some d,some [.td ks xs],some z=>
   if Fq d k=true/\ks.all (Fq d) then
    match mapIdx ks k with
    |some j=>(xs[j]?).map λv=>if ok then .tuple [v,.sc (.bool true)] else v|none=>some (if ok then .tuple [z,.sc (.bool false)] else z)
   else none
  |_,_,_=>none
 |_,_,_=>none
def DB(ks:List Value)(xs:List AV)(k:Value)(v:AV):AV:=
 match mapIdx ks k with
 |some j=>.td ks (xs.set j v)|none=>.td (ks++[k]) (xs++[v])
def rX(P:Program)(t:TypeId)(x i v:AV)(K:Fr->cW->Prop)(fr:Fr)(H:cW):Prop:=
 match P.underlying t,x,i with
 |some (.map kt _),.mU o,.sc k=>
  match P.underlying kt,H[o]?with
  |some d,some [.td ks xs]=>Fq d k=true/\ks.all (Fq d)=true/\K fr (H.set o [DB ks xs k v.norm])|_,_=>False
 |_,_,_=>False
def Gh(dst:Option Nat)(K:Fr->cW->Prop)(fr:Fr)(H:cW):Prop:=K (fr.put dst (.mU H.length)) (H++[[.td [] []]])
def GN(P:Program)(t:TypeId)(x:AV)(dst:Option Nat)(K:Fr->cW->Prop)(fr:Fr)(H:cW):Prop:=
 match P.underlying t,x with
 |some (.map _ _),.mU o=>
  match H[o]?with
  |some [.td ks _]=>K (fr.put dst (.dM H.length 0)) (H++[[.l_ o ks.length []]])|_=>False
 |_,_=>False
def Iy(x:AV)(dst:Option Nat)(K:Fr->cW->Prop)(fr:Fr)(H:cW):Prop:=
 match x with
 |.dM i 0=>
  match H[i]?with
  |some [.l_ o since seen]=>
   match H[o]?with
   |some [.td ks xs]=>ks.length=since/\ks.all z7=true/\((∀j,j<ks.length->j∈seen)->K (fr.put dst (.tuple [.sc (.bool false)])) H)/\∀j k v,ks[j]?=some k->xs[j]?=some v->j∉seen->K (fr.put dst (.tuple [.sc (.bool true),.sc k,v])) (H.set i [.l_ o since (seen++[j])])|_=>False
  |_=>False
 |_=>False
def CR(x:AV)(H:cW):Option AV:=
 match x with
 |.dM i 0=>
  match H[i]?with
  |some [.l_ o since seen]=>
   match H[o]?,seen.getLast? with
   |some [.td ks xs],some j=>
    match ks[j]?,xs[j]?with
    |some k,some v=>if ks.length=since/\z7 k then some (.tuple [.sc k,v])else none|_,_=>none
   |_,_=>none
  |_=>none
 |_=>none
def kQ.Bp{F:jY}{G:Nat->Nat}{n:Nat}{ks xs b}(h:kQ F G n [.td ks xs] b):∃es clock,b=.map es clock/\es.toList.map (·.key)=ks/\f_ (fF F G n) xs (es.toList.map (·.val))/\es.toList.map (·.born)=List.range ks.length/\clock=ks.length/\ks.Nodup:=by
 cases h with
 |cells f h1 a=>have:=a (.td ks xs) aa4;simp[AV.eD] at this
 |map h1 a c d e=>exact⟨_,_,rfl,h1,a,c,d,e⟩
def kQ.LS{F:jY}{G:Nat->Nat}{n:Nat}{o since seen a}(h:kQ F G n [.l_ o since seen] a):a=.mapIter (some (G o)) since seen.toArray since/\o<n:=by
 cases h with
 |cells c h1 b=>have:=b (.l_ o since seen) aa4;simp[AV.eD] at this
 |iter h=>exact⟨rfl,h⟩
section
variable{P:Program} {T:dx} {n B0:Nat} {ρ:Maps} {F:jY} {R:Nat->oM} {fr:Fr} {H:cW} {a:Act} {w:World}
def DL{o:Nat}{v:Value}(h:fG F ρ (.mU o) v):v=.map (some (ρ.G o))/\o<ρ.n:=by
 cases h with
 |cell h=>cases h with
  |p h=>cases h with|mU h=>exact⟨rfl,h⟩
def QO(w:World){t:TypeId}{z:AV}(h:L8 P t=some z):∃v,(zeroValue t).run P w=.ok v w/\fF F ρ.G ρ.n z v:=by
 unfold L8 at h
 split at h
 ·rename_i z0 a
  split at h
  ·rename_i b;injection h with h;subst h;refine⟨z0,?_,(fG.p (Ci _ _ _ _ b.1)).norm⟩;unfold zeroOf at a;cases hi:P.info? t with
   |none=>rw[hi] at a;cases a
   |some i=>
    rw[hi] at a;simp at a;simp[zeroValue,typeInfo,hi,a]
  ·cases h
 ·cases h
def OF{d:TypeDesc}{ks:List Value}{es:Array MapEntry}(h:es.toList.map (·.key)=ks)(a:ks.all (Fq d)=true):∀x∈es.toList,IsKey d x.key:=by
 intro x b;refine ux (j7.1 a _ ?_);rw[<-h];exact l8.2 ⟨x,b,rfl⟩
def E6{ks:List Value}{es:Array MapEntry}{j:Nat}{e:MapEntry}(h:es.toList.map (·.key)=ks)(a:es.toList[j]?=some e):ks[j]?=some e.key:=by
 rw[<-h,tM,a];rfl
def L9(h:WR T n B0 ρ F R fr H a w){t:TypeId}{x i r:AV}{ok:Bool}{L M:Value}(c:tT P H t x i ok=some r)(D:fG F ρ x L)(hi:fG F ρ i M):∃v,(Instr.lookup t L M ok).run P w=.ok v w/\fG F ρ r v:=by
 unfold tT at c
 split at c
 ·rename_i kt e o k hu
  split at c
  ·rename_i d ks xs z hd O Q
   split at c
   ·rename_i E;obtain⟨rfl,_⟩:=DL D;obtain rfl:=fh hi;obtain⟨W,h1,S⟩:=h.g.jX o _ O;obtain⟨es,clock,rfl,G,N,X,Y,U⟩:=S.Bp;rw[<-h.hn] at N;have b:=ux E.1;have m:=OF G E.2;have q:∀y∈ks,IsKey d y:=λy hy=>ux (j7.1 E.2 _ hy);obtain⟨I,J,s⟩:=QO (F:=F) (ρ:=ρ) w Q;rcases findNow_spec b es.toList 0 m with⟨f,l⟩|⟨j,C,f,l,K⟩
    ·rw[yT b q (by
      intro y hy;rw[<-G] at hy;obtain⟨x,D,rfl⟩:=l8.1 hy
      exact l x D)] at c
     simp only[sy] at c;subst c;refine⟨if ok then .tuple #[I,.bool false] else I,?_,?_⟩
     ·cases ok<;>simp[Instr.lookup,run_underlying hu,MapKept.run_getObj_map h1,run_checkKey hd b,run_findKey hd f,J,Result.andThen]
     ·cases ok
      ·exact .p s
      ·exact .p (.tuple (vs:=[I,.bool false]) (.cons s (.cons (.sc rfl) .nil)))
    ·have u:=E6 G l;rw[K] at u;rw[yH b q U u] at c;simp only[Um] at c;obtain⟨y,hy,rfl⟩:=c;obtain⟨V,A,B⟩:=N.get hy
     have:V=C.val:=by
      rw[tM,l] at A;simpa using A.symm
     subst this;simp only[r_] at f;refine⟨if ok then .tuple #[C.val,.bool true] else C.val,?_,?_⟩
     ·cases ok<;>simp[Instr.lookup,run_underlying hu,MapKept.run_getObj_map h1,run_checkKey hd b,run_findKey hd f,Result.andThen]
     ·cases ok
      ·exact .p B
      ·exact .p (.tuple (vs:=[C.val,.bool true]) (.cons B (.cons (.sc rfl) .nil)))
   ·cases c
  ·cases c
 ·cases c
def f_.abP{α β:Type}{R:α->β->Prop}{as:List α}{bs:List β}(h:f_ R as bs){a:α}{b:β}(c:R a b)(j:Nat):f_ R (as.set j a) (bs.set j b):=by
 induction h generalizing j with
 |nil=>simp;exact .nil|cons h1 d e=>cases j with
  |zero=>exact .cons c d|succ j=>exact .cons h1 (e j)
def Bj(f:MapEntry->MapEntry){α:Type}(g:MapEntry->α)(es:Array MapEntry)(j:Nat){e:MapEntry}(d:es.toList[j]?=some e):(es.modify j f).toList.map g=(es.toList.map g).set j (g (f e)):=by
 apply Qm;intro i;simp only[tM,Uy,Array.getElem?_modify,Ps,AP,Oi]
 by_cases a:j=i
 ·subst a
  have b:es[j]?=some e:=by simpa using d
  obtain⟨c,he⟩:=MC.1 b;simp[b,c,he]
 ·simp[a]
def KN{α:Type}{l:List α}{j:Nat}{x:α}(h:l[j]?=some x):l.set j x=l:=by
 apply Qm;intro i;rw[Ps]
 by_cases a:j=i
 ·subst a;obtain⟨h1,b⟩:=kj.1 h;simp[h1,b]
 ·simp[a]
def By{G0:Nat->Nat}{F0:jY}{n0:Nat}{w0:World}(h:WR T n w0.heap.size ρ F R fr H a w)(A:Ext w0.heap.size G0 F0 n0 w0 ρ.G F H.length w){t:TypeId}{x i v:AV}{W u z:Value}{K:Fr->cW->Prop}
  (k:rX P t x i v K fr H) (J:fG F ρ x W) (L:fG F ρ i u) (B:fG F ρ v z):∃fr' H' w',(Instr.mapUpdate t W u z).run P w=.ok () w'/\K fr' H'/\SR T n G0 F0 n0 w0 fr' H' a w':=by
 unfold rX at k
 split at k
 ·rename_i kt e o kk hu
  split at k
  ·rename_i d ks xs hd M;obtain⟨N,C,k⟩:=k;obtain⟨rfl,_⟩:=DL J;obtain rfl:=fh L;obtain⟨ob,h1,Z⟩:=h.g.jX o _ M;obtain⟨es,clock,rfl,p,O,X,Q,S⟩:=Z.Bp;have c:=ux N;have q:=OF p C;have D:∀y∈ks,IsKey d y:=λy hy=>ux (j7.1 C _ hy)
   have hlen:es.toList.length=ks.length:=by rw[<-p];simp
   rw[<-h.hn] at O
   have fin:∀(l:Obj) (r:List AV),kQ F ρ.G ρ.n r l->K fr (H.set o r)->(Instr.mapUpdate t (.map (some (ρ.G o))) u z).run P w=.ok () {w with heap:=w.heap.setIfInBounds (ρ.G o) l}->∃fr' H' w',(Instr.mapUpdate t (.map (some (ρ.G o))) u z).run P w=.ok () w'/\K fr' H'/\SR T n G0 F0 n0 w0 fr' H' a w':=by
    intro l r U k E;obtain⟨s1,s2⟩:=heap_set (o':=l) h1;refine⟨_,_,_,E,k,ρ,F,R,h.GM M aa4 aa4 s1 s2 U,?_⟩;rw[CN];refine A.KL rfl rfl rfl aa4 λb V hn=>s2 b ?_;rintro rfl;exact hn o (kj.1 M).1 rfl
   rcases findNow_spec c es.toList 0 q with⟨m,f⟩|⟨j,e0,m,f,I⟩
   ·rw[DB,yT c D (by
     intro y hy;rw[<-p] at hy;obtain⟨x,A,rfl⟩:=l8.1 hy
     exact f x A)] at k
    refine fin (.map (es.push {key:=u,val:=z,born:=clock}) (clock+1)) _ (.map ?_ ?_ ?_ ?_ ?_) k ?_
    ·simp[p]
    ·simpa using O.append (.cons B.norm .nil)
    ·simp[X,Q,List.range_succ]
    ·simp[Q]
    ·rw[List.nodup_append];refine⟨S,aa4,?_⟩;intro a Y b V;simp only[yo] at V;subst V;rw[<-p] at Y;obtain⟨x,A,rfl⟩:=l8.1 Y;exact f x A
    ·simp[Instr.mapUpdate,run_underlying hu,MapKept.run_getObj_map h1,run_checkKey hd c,run_findKey hd m,run_setObj_map _ h1,Result.andThen]
   ·have s:=E6 p f;rw[I] at s;rw[DB,yH c D S s] at k
    have hj:es[j]?=some e0:=by simpa using f
    simp only[r_] at m;refine fin (.map (es.modify j λe=>{e with key:=u,val:=z}) clock) _ (.map ?_ ?_ ?_ Q S) k ?_
    ·rw[Bj _ _ _ _ f,p,KN s]
    ·rw[Bj _ _ _ _ f];exact O.abP B.norm j
    ·rw[Bj _ _ _ _ f,KN (by rw[tM,f];rfl),X]
    ·simp[Instr.mapUpdate,run_underlying hu,MapKept.run_getObj_map h1,run_checkKey hd c,run_findKey hd m,hj,I,run_keyThatStays c,run_setObj_map _ h1,Result.andThen]
  ·exact k.elim
 ·exact k.elim
def rH{G0:Nat->Nat}{F0:jY}{n0:Nat}{w0:World}(h:WR T n w0.heap.size ρ F R fr H a w)(i:Ext w0.heap.size G0 F0 n0 w0 ρ.G F H.length w){c:Obj}{cs:List AV}(e:kQ F ρ.G ρ.n cs c)
  {dst:Option Nat} (hd:∀d,dst=some d->d<n) {x:AV} {v:Value} (k:∀ρ':Maps,(∀o,o<H.length->ρ'.G o=ρ.G o)->ρ'.G H.length=w.heap.size->ρ'.n=H.length+1->fF F ρ'.G ρ'.n x v):SR T n G0 F0 n0 w0 (fr.put dst x) (H++[cs]) (a.put dst v) (w.alloc c):=by
 obtain⟨ρ',l,hG,b,f,hw⟩:=(h.alloc c).Oz (h.lb _ (gu _)) (λj=>h.g.fresh _ j (gu _)) (heap_alloc_new w _) e;refine⟨ρ',F,l,hw.put hd (.p (k ρ' hG b f)),?_⟩;rw[oJ];exact(i.alloc h.qT _).aaS hG (by rw[b];exact h.qT)
def Ce{G0:Nat->Nat}{F0:jY}{n0:Nat}{w0:World}(h:WR T n w0.heap.size ρ F R fr H a w)(p:Ext w0.heap.size G0 F0 n0 w0 ρ.G F H.length w){t k:Nat}{parts:List (Nat×AV)}{pv:List (Nat×Value)}{tag:Tag}{l:List AV}
  {dst:Option Nat} (q:mH P t k parts=some (.slice tag l)) (c:f_ (λ(x:Nat×AV) (y:Nat×Value)=>x.1=y.1/\fG F ρ x.2 y.2) parts pv) (hd:∀d,dst=some d->d<n):∃v w',(Instr.buildSlice t k pv.toArray).run P w=.ok v w'/\SR T n G0 F0 n0 w0 (fr.put dst (.pQ H.length 0 l.length l.length)) (H++[l.flatMap AV.cells]) (a.put dst v) w':=by
 obtain⟨s,us,e,sz,he,i,CV,r,b,f,g⟩:=za w q c;injection he with _ he;subst he;refine⟨_,_,g,rH h p (.cells (.inl rfl) (by simpa using b) f) hd ?_⟩;intro ρ' hG j m;have:=fF.pQ (F:=F) (G:=ρ'.G) (n:=ρ'.n) (o:=H.length) (off:=0) (len:=l.length) (cap:=l.length) (by rw[m];omega) (gu _) (by rw[i];exact CV);rw[j,i] at this;rw[i];exact this
def Hh{G0:Nat->Nat}{F0:jY}{n0:Nat}{w0:World}(h:WR T n w0.heap.size ρ F R fr H a w)(e:Ext w0.heap.size G0 F0 n0 w0 ρ.G F H.length w){t:TypeId}{dst:Option Nat}(hd:∀d,dst=some d->d<n):∃v w',(Instr.makeMap t none).run P w=.ok v w'/\SR T n G0 F0 n0 w0 (fr.put dst (.mU H.length)) (H++[[.td [] []]]) (a.put dst v) w':=by
 refine⟨.map (some w.heap.size),w.alloc (.map #[] 0),by simp[Instr.makeMap,Result.andThen],rH h e (.map aa4 (by simp;exact .nil) aa4 rfl aa4) hd ?_⟩;intro ρ' hG b c;have:=fF.mU (F:=F) (G:=ρ'.G) (n:=ρ'.n) (o:=H.length) (by rw[c];omega);rw[b] at this;exact this
def Ms{G0:Nat->Nat}{F0:jY}{n0:Nat}{w0:World}(h:WR T n w0.heap.size ρ F R fr H a w)(l:Ext w0.heap.size G0 F0 n0 w0 ρ.G F H.length w){t:TypeId}{x:AV}{k:Value}{dst:Option Nat}{K:Fr->cW->Prop}
  (b:GN P t x dst K fr H) (hd:∀d,dst=some d->d<n) (c:fG F ρ x k):∃v w' fr' H',(Instr.range t k).run P w=.ok v w'/\K fr' H'/\SR T n G0 F0 n0 w0 fr' H' (a.put dst v) w':=by
 unfold GN at b
 split at b
 ·rename_i kt e o hu
  split at b
  ·rename_i ks xs m;obtain⟨rfl,f⟩:=DL c;obtain⟨r,h1,p⟩:=h.g.jX o _ m;obtain⟨es,clock,rfl,s,u,y,q,z⟩:=p.Bp;subst q;refine⟨_,_,_,_,run_range_map w t kt e (ρ.G o) es ks.length hu h1,b,rH h l (.iter (seen:=[]) f) hd ?_⟩;intro ρ' hG i j;have:=fF.dM (F:=F) (G:=ρ'.G) (n:=ρ'.n) (o:=H.length) (off:=0) (by rw[j];omega);rw[i] at this;exact this
  ·exact b.elim
 ·exact b.elim
def MA{es:Array MapEntry}{k:Nat}(h:es.toList.map (·.born)=List.range k){e:MapEntry}(he:e∈es.toList):e.born<k/\es.toList[e.born]?=some e:=by
 obtain⟨j,b⟩:=Wd.1 he
 have h1:(es.toList.map (·.born))[j]?=some e.born:=by rw[tM,b];rfl
 rw[h] at h1
 have a:j<k:=by
  have:=(kj.1 h1).1;simpa using this
 rw[TU a] at h1
 have:j=e.born:=by simpa using h1
 rw[<-this];exact⟨a,b⟩
def He(w:World){it m since:Nat}{seen:Array Nat}{es:Array MapEntry}(ty:TypeId)(hit:w.heap[it]?=some (.mapIter (some m) since seen since))(hm:w.heap[m]?=some (.map es since))(q:es.toList.map (·.born)=List.range since):((∀e∈es.toList,e.born∈seen)/\(Instr.next (.pointer (some ⟨it,0,none⟩)) false ty).run P w=.ok (.tuple #[.bool false]) w)\/∃e∈es.toList,e.born∉seen/\∃a,(a=w\/a=w.drew)/\(Instr.next (.pointer (some ⟨it,0,none⟩)) false ty).run P w=.ok (.tuple #[.bool true,e.key,e.val]) {a with heap:=a.heap.setIfInBounds it (.mapIter (some m) since (seen.push e.born) since)}:=by
 have hold:∀x∈es.toList,x.born<since:=λx c=>(MA q c).1;simp only[Instr.next,getObj,gb,Sem.run,hit,hm,Result.andThen,next_test_false seen es since since hold (gu _),oZ,kY]
 have k:∀x,x∈(Array.filter (λe=>!seen.contains e.born) es).toList↔x∈es.toList/\x.born∉seen:=by
  intro x;simp
 generalize Array.filter (λe=>!seen.contains e.born) es=L at k|-;have b:∀x∈L.toList,x.born<since:=λx c=>hold x ((k x).1 c).1;have r:L.filter (λx=>decide (x.born<since))=L:=Array.filter_eq_self.2 (λx c=>by simpa using b x (by simpa using c))
 have s:L.filter (λx=>decide (x.born>=since))=#[]:=by
  rw[Array.filter_eq_empty_iff];intro x c;have:=b x (by simpa using c);simp;omega
 simp only[r,s,Array.append_empty]
 by_cases o:L.size=0
 ·left;have:L=#[]:=Tq o;subst this;refine⟨?_,?_⟩
  · intro e he;cases Decidable.em (e.born∈seen)with
    |inl h=>exact h|inr h=>have:=(k e).2 ⟨he,h⟩;simp at this
  · simp[choose,Sem.run,Question.forced]
 ·right
  have l:L.isEmpty=false:=by simp[Array.isEmpty,o]
  simp only[l,oZ,kY,Array.empty_append,Array.size_map]
  have n:∃(j:Nat) (a:World),j<L.size/\(a=w\/a=w.drew)/\(choose (Question.mapNext L.size)).run P w=.ok j a:=by
    by_cases p:L.size<=1
    ·exact⟨0,w,VW,.inl rfl,by simp[choose,Sem.run,Question.forced,p]⟩
    ·exact⟨_,w.drew,aaC _ VW,.inr rfl,by
      simp only[choose,Sem.run,Question.forced,oI,p,kY,Question.cut]
      rfl⟩
  obtain⟨j,a,t,d,f⟩:=n;have g:=(k L[j]).1 aa4;refine⟨L[j],g.1,g.2,a,d,?_⟩
  have i:a.heap[it]?=some (.mapIter (some m) since seen since):=by
    rcases d with rfl|rfl
    ·exact hit
    ·exact hit
  have dH:∀(o':Obj),(setObj it o').run P a=.ok () {a with heap:=a.heap.setIfInBounds it o'}:=λo'=>by
    simp only[setObj,Sem.run,i]
  simp only[f,Array.getElem?_map,Pe t,Px,gb,dH,Result.andThen];rfl
def NJ(h:WR T n B0 ρ F R fr H a w){x r:AV}{B:Value}(b:CR x H=some r)(s:fG F ρ x B):∃v,(Instr.entry B).run P w=.ok v w/\fG F ρ r v:=by
 unfold CR at b
 split at b
 ·rename_i i
  split at b
  ·rename_i o since seen hi
   split at b
   ·rename_i ks xs j I J
    split at b
    ·rename_i k v C K
     split at b
     ·rename_i L;obtain⟨hlen,t⟩:=L;injection b with b;subst b;obtain⟨rfl,M⟩:=ui s;obtain⟨W,g1,g2⟩:=h.g.jX i _ hi;obtain⟨rfl,N⟩:=g2.LS;obtain⟨O,h1,Q⟩:=h.g.jX o _ I;obtain⟨es,clock,rfl,D,E,u,G,X⟩:=Q.Bp;rw[hlen] at u G;subst G;rw[<-h.hn] at E;obtain⟨S,e,y⟩:=E.get K
      have z:j<clock:=by rw[<-hlen];exact(kj.1 C).1
      have f:j<es.toList.length:=by
       have:(es.toList.map (·.key)).length=ks.length:=by rw[D]
       simp only[AP] at this;omega
      have c:es.toList[j]?=some es.toList[j]:=oO f
      have U:es.toList[j].born=j:=by
       have l:(es.toList.map (·.born))[j]?=some es.toList[j].born:=by rw[tM,c];rfl
       rw[u,TU z] at l;exact(gh l).symm
      have m:es.toList[j].key=k:=by
       have l:=E6 D c;rw[C] at l;exact(gh l).symm
      have q:es.toList[j].val=S:=by
       rw[tM,c] at e;exact gh e
      have V:es.find? (·.born==j)=some es.toList[j]:=by
       rw[<-Array.find?_toList]
       have A:(es.toList.map (·.born)).Nodup:=by rw[u];exact List.nodup_range
       have:=find_born es.toList[j] es.toList A (GH f);rw[U] at this;exact this
      have d:seen.toArray.back?=some j:=by
       rw[<-J];simp
      refine⟨.tuple #[es.toList[j].key,es.toList[j].val],?_,.p (.tuple (vs:=[es.toList[j].key,es.toList[j].val]) (.cons (by rw[m];exact .sc t) (.cons (by rw[q];exact y) .nil)))⟩;simp only[Instr.entry,getObj,gb,Sem.run,g1,h1,Result.andThen,d,bne_self_eq_false,oZ,kY,V];rfl
     ·cases b
    ·cases b
   ·cases b
  ·cases b
 ·cases b
def NA{G0:Nat->Nat}{F0:jY}{n0:Nat}{w0:World}(h:WR T n w0.heap.size ρ F R fr H a w)(y:Ext w0.heap.size G0 F0 n0 w0 ρ.G F H.length w){x:AV}{V:Value}{dst:Option Nat}{K:Fr->cW->Prop}(ty:TypeId)
  (f:Iy x dst K fr H) (hd:∀d,dst=some d->d<n) (z:fG F ρ x V):∃v w' fr' H',(Instr.next V false ty).run P w=.ok v w'/\K fr' H'/\SR T n G0 F0 n0 w0 fr' H' (a.put dst v) w':=by
 unfold Iy at f
 split at f
 ·rename_i i
  split at f
  ·rename_i o since seen hi
   split at f
   ·rename_i ks xs ho;obtain⟨hlen,A,B,C⟩:=f;obtain⟨rfl,aa⟩:=ui z;obtain⟨ob,g1,g2⟩:=h.g.jX i _ hi;obtain⟨rfl,D⟩:=g2.LS;obtain⟨ab,h1,h2⟩:=h.g.jX o _ ho;obtain⟨es,clock,rfl,W,E,u,X,e5⟩:=h2.Bp;rw[hlen] at u X;subst X;rw[<-h.hn] at E
    have ad:es.toList.length=ks.length:=by rw[<-W];simp
    rcases He (P:=P) w ty g1 h1 u with⟨l,c⟩|⟨e,he,I,J,k,c⟩
    ·refine⟨_,_,_,_,c,B ?_,ρ,F,R,h.put hd (.p (.tuple (vs:=[.bool false]) (.cons (.sc rfl) .nil))),y⟩;intro j hj
     have m:j<es.toList.length:=VW
     have hm:=l es.toList[j] (GH m)
     have L:(es.toList.map (·.born))[j]?=some es.toList[j].born:=by rw[tM,oO m];rfl
     rw[u,TU VW] at L
     have:j=es.toList[j].born:=by simpa using L
     rw[this];simpa using hm
    ·obtain⟨b1,M⟩:=MA u he;have Y:ks[e.born]?=some e.key:=E6 W M
     have N:(es.toList.map (·.val))[e.born]?=some e.val:=by rw[tM,M];rfl
     have ae:xs.length=es.toList.length:=by have:=E.length;simpa using this
     obtain⟨v,Z⟩:∃v,xs[e.born]?=some v:=⟨_,oO (by have:=(kj.1 M).1;omega)⟩;obtain⟨vv,q,O⟩:=E.get Z
     have:vv=e.val:=by rw[N] at q;simpa using q.symm
     subst this;have r:z7 e.key=true:=j7.1 A _ (z6 Y);have Q:=C e.born e.key v Y Z (by simpa using I)
     have s:WR T n w0.heap.size ρ F R fr H a J:=by
      rcases k with rfl|rfl
      ·exact h
      ·exact h.drew
     have t:Ext w0.heap.size G0 F0 n0 w0 ρ.G F H.length J:=by
      rcases k with rfl|rfl
      ·exact y
      ·exact y.drew
     have S:J.heap[ρ.G i]?=some (.mapIter (some (ρ.G o)) clock seen.toArray clock):=by
      rcases k with rfl|rfl
      ·exact g1
      ·exact g1
     obtain⟨s1,s2⟩:=heap_set (o':=.mapIter (some (ρ.G o)) clock (seen.toArray.push e.born) clock) S
     have U:kQ F ρ.G ρ.n [.l_ o clock (seen++[e.born])] (.mapIter (some (ρ.G o)) clock (seen.toArray.push e.born) clock):=by
      have:=kQ.iter (F:=F) (G:=ρ.G) (n:=ρ.n) (o:=o) (since:=clock) (seen:=seen++[e.born]) (by rw[h.hn];exact D);simpa using this
     refine⟨_,_,_,_,c,Q,ρ,F,R,(s.GM hi aa4 aa4 s1 s2 U).put hd (.p (.tuple (vs:=[.bool true,e.key,e.val]) (.cons (.sc rfl) (.cons (.sc r) (.cons O .nil))))),?_⟩;rw[CN];refine t.KL rfl rfl rfl aa4 λb L hn=>s2 b ?_;rintro rfl;exact hn i (kj.1 hi).1 rfl
   ·exact f.elim
  ·exact f.elim
 ·exact f.elim
end
end Go.ke
