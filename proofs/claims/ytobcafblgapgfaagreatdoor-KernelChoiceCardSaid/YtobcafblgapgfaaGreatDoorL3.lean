/- Part of the proof of KernelChoice: layer. -/
import Derived.Great.BuildSlice
import Derived.Lib.AppendStr
import Derived.MapKept
import Derived.Laws.IdiomRangeMap
import Derived.Test.YtobcafblgapgfaaGreatDoorL2
set_option linter.all false
namespace Go.ky
open Go
section
variable{B:Nat} {G G':Nat->Nat} {F F':jH} {n:Nat} {G0:Nat->Nat} {F0:jH} {n0:Nat} {w0 w w':World}
def Ext.HL(h:Ext B G0 F0 n0 w0 G F n w)(a:w'.os=w.os)(c:w'.tape=w.tape)(d:w'.output=w.output)(hs:w.heap.size<=w'.heap.size)
  (e:∀b,b<B->(∀o,o<n->G o≠b)->w'.heap[b]?=w.heap[b]?):Ext B G0 F0 n0 w0 G F n w':=
 h.trans ⟨a,c,d,hs,hO _,λ_ _=>rfl,λ_ h f=>absurd f (by omega),λ_ _ _ _=>rfl,λ_ _ _ _ h=>h,e⟩
def Ext.drew(h:Ext B G0 F0 n0 w0 G F n w):Ext B G0 F0 n0 w0 G F n w.drew:=h.HL rfl rfl rfl (hO _) λ_ _ _=>rfl
def Ext.alloc(h:Ext B G0 F0 n0 w0 G F n w)(a:B<=w.heap.size)(o:Obj):Ext B G0 F0 n0 w0 G F n (w.alloc o):=
 h.HL rfl rfl rfl (by simp) λb c _=>heap_alloc_old w o (by omega)
def Ext.setRow(h:Ext B G0 F0 n0 w0 G F n w){g:Nat}(hg:B<=g\/∃o,o<n/\G o=g)(cs:Array Value):Ext B G0 F0 n0 w0 G F n (w.setRow g cs):=
 h.HL rfl rfl rfl (by rw[size_setRow];exact hO _) λb c hn=>setRow_other w g b cs (by
  rintro rfl;rcases hg with hg|⟨o,a,hg⟩
  ·omega
  ·exact hn o a hg)
def Ext.freeze(h:Ext B G0 F0 n0 w0 G F n w)(hF:∀b j,b<B->F' b j=F b j):Ext B G0 F0 n0 w0 G F' n w:=
 h.trans ⟨rfl,rfl,rfl,hO _,hO _,λ_ _=>rfl,λ_ h c=>absurd c (by omega),λb j a _=>hF b j a,λb j v a d=>(hF b j a).trans d,λ_ _ _=>rfl⟩
def Ext.WT(h:Ext B G0 F0 n0 w0 G F n w)(hG:∀o,o<n->G' o=G o)(hn:B<=G' n):Ext B G0 F0 n0 w0 G' F (n+1) w:=
 h.trans ⟨rfl,rfl,rfl,hO _,by omega,hG,λo a b=>(by rw[show o=n from(by omega)];exact hn),λ_ _ _ _=>rfl,λ_ _ _ _ h=>h,λ_ _ _=>rfl⟩
end
def SR(T:dA)(n:Nat)(G0:Nat->Nat)(F0:jH)(n0:Nat)(w0:World)(fr:Fr)(H:cV)(a:Act)(w:World):Prop:=
 ∃ρ F R,WR T n w0.heap.size ρ F R fr H a w/\Ext w0.heap.size G0 F0 n0 w0 ρ.G F H.length w
def tZ(P:Program)(fr:Fr)(H:cV)(t:TypeId)(x:AV):Option AV:=
 match x with
 |.kN v=>if oz P t v=true then some v else none|.dc b g off=>if g=fr.gen b then(match fr.box b with|some cs=>lO P t cs off|none=>none)else none
 |.ei o off=>match H[o]?with|some cs=>if vX cs=true then lO P t cs off else none|none=>none
 |_=>none
section
variable{P:Program} {T:dA} {n B0:Nat} {ρ:Maps} {F:jH} {R:Nat->mU} {fr:Fr} {H:cV} {a:Act} {w:World}
def LR{t:TypeId}{v:AV}(h:oz P t v=true):(∃k cs,eB P t=some (true,k)/\v=.agg cs/\cs.length=k)\/(∃k,eB P t=some (false,k)/\v.fA=true):=by
 unfold oz at h;cases a:eB P t with
 |none=>rw[a] at h;simp at h
 |some p=>
  obtain⟨b,k⟩:=p;rw[a] at h;cases b
  ·cases v<;>first|(simp at h;done)|exact .inr ⟨k,rfl,rfl⟩
  ·cases v<;>first|exact .inl ⟨k,_,rfl,rfl,by simpa using h⟩|(simp at h;done)
def vW(w:World){t:TypeId}{b off:Nat}{cs:List AV}{vs:Array Value}{ty:TypeId}{f:Nat×Nat}{z:AV}(i:w.heap[b]?=some (.cells vs ty f))
  (a:gi (iR F ρ) cs vs.toList) (e:∀c∈cs,c.fA=true) (l:lO P t cs off=some z):∃v,(Instr.loadAt t (.pointer (some ⟨b,off,none⟩))).run P w=.ok v w/\fl F ρ z v:=by
 unfold Instr.loadAt;simp only[Instr.sureAddr,fL,mE,iq];rcases wI l with⟨k,g,hle,rfl⟩|⟨k,g,h⟩
 ·refine⟨.agg ((vs.toList.drop off).take k).toArray,?_,.agg ((a.drop off).take k) (λc h=>e c (Ek (Ac h)))⟩;refine vi g w ⟨b,off,none⟩ _ (by have:=a.length;simp only[AK,UD];omega) ?_;intro j v d;rw[Addr.add_lit,cell_of_row w b _ vs ty f i];rw[He] at d
  split at d
  ·rw[L3] at d;simpa using d
  ·cases d
 ·obtain⟨v,d,m⟩:=a.get h;refine⟨v,?_,.cell m⟩;refine vb g w ⟨b,off,none⟩ v ?_;rw[cell_of_row w b _ vs ty f i];simpa using d
def FL(h:WR T n B0 ρ F R fr H a w){t:TypeId}{x z:AV}{u:Value}(c:tZ P fr H t x=some z)(l:fl F ρ x u):∃v,(Instr.loadAt t u).run P w=.ok v w/\fl F ρ z v:=by
 unfold tZ at c
 split at c
 ·rename_i v
  split at c
  ·rename_i A;injection c with c;subst c;obtain⟨b,o,vs,rfl,e,m,q⟩:=Am l;unfold Instr.loadAt;simp only[Instr.sureAddr,fL,mE,iq];rcases LR A with⟨k,cs,d,rfl,B⟩|⟨k,d,i⟩
   ·refine⟨.agg vs.toArray,?_,.p (.agg e q)⟩;refine vi d w ⟨b,o,none⟩ vs (by rw[<-e.length];exact B) ?_;intro j v C;rw[Addr.add_lit];exact h.g.Ce b _ v (m j v C)
   ·rw[AV.w4 i] at e;cases e with
    |cons e hn=>
     cases hn;rename_i u;refine⟨u,?_,.p e⟩;refine vb d w ⟨b,o,none⟩ u ?_;exact h.g.Ce b o u (m 0 u rfl)
  ·cases c
 ·rename_i b g off
  split at c
  ·rename_i hg
   split at c
   ·rename_i cs r;obtain⟨rfl,_⟩:=tW l;obtain⟨e,m,q,vs,ty,s,f⟩:=h.box b cs r;rw[hg];exact vW w s f q c
   ·cases c
  ·cases c
 ·rename_i o off
  split at c
  ·rename_i cs r
   split at c
   ·rename_i y;obtain⟨rfl,_⟩:=ry l;obtain⟨E,s,f⟩:=h.g.ka o cs r;obtain⟨vs,ty,G,rfl,_,f,D⟩:=f.HF y;rw[<-h.hn] at f;exact vW w s (f.mono λ_ _ _ h=>.p h) D c
   ·cases c
  ·cases c
 ·cases c
def ME{w:World}{b j:Nat}{vs:Array Value}{ty:TypeId}{a:Nat×Nat}(c:w.heap[b]?=some (.cells vs ty a))(d:LQ a vs.size)(g:j<vs.size):w.frozen? ⟨b,j,none⟩=false:=by
 obtain⟨lo,hi⟩:=a;unfold World.frozen?;simp only[c];rcases d with h|h
 ·injection h with e f;subst e;subst f;simp
 ·have h:vs.size<=lo:=h;simp only[Bool.and_eq_false_iff,OQ];exact .inl (by omega)
def s5(P:Program)(b o:Nat)(ty:TypeId)(c:Nat×Nat):∀(us:List Value) (i:Nat) (vs:Array Value) (w:World),w.heap[b]?=some (.cells vs ty c)->LQ c vs.size->o+i+us.length<=vs.size->(∀u∈us,u.oneCell'=true)->(storeCells ⟨b,o,none⟩ us i).run P w=.ok () (w.setRow b (vs.toList.take (o+i)++us++vs.toList.drop (o+i+us.length)).toArray)
 |[],i,vs,w,d,_,_,_=>by
  have e:=setRow_self w b vs ty c d;simp only[storeCells,xm,tH,BO,List.take_append_drop,QZ,e];rfl
 |u::us,i,vs,w,d,h,m,l=>by
  simp only[jW] at m
  have f:o+i<vs.size:=by omega
  have n:w.cell? ⟨b,o+i,none⟩=some vs[o+i]:=by
   rw[cell_of_row w b _ vs ty c d];exact L9 f
  have hs:(store ((⟨b,o,none⟩:Addr).add i) u).run P w=.ok () (w.setRow b (vs.setIfInBounds (o+i) u)):=by
   rw[Addr.add_lit,run_store P w _ u _ (l u (by simp)),n];simp[ME d h f,setCell_eq_setRow w b (o+i) vs ty c u d]
  have g:=setRow_heap w b vs (vs.setIfInBounds (o+i) u) ty c d;have p:=s5 P b o ty c us (i+1) _ _ g (by simpa using h) (by simp;omega) (λx q=>l x (by simp[q]));rw[storeCells];simp only[fL,hs,iq];rw[p,setRow_setRow]
  congr 2
  apply B4.1;simp only[O4];apply KA;intro j;simp only[so,jW,RS]
  have a:∀k,k<=vs.toList.length->(vs.toList.take k).length=k:=λk y=>by rw[AK];omega
  have r:vs.toList.length=vs.size:=by simp
  rcases My j (o+i)with hj|hj|hj
  ·rw[rf (by rw[AK,OH];omega),rf (by rw[a _ (by omega)];omega),He,He,cG (by omega),cG hj,Hk (by omega)]
  ·subst hj;rw[rf (by rw[AK,OH];omega),vu (by rw[a _ (by omega)];omega),a _ (by omega),He,cG (by omega),Nr (by omega),WS];rfl
  ·have s:∀X:List Value,((vs.toList.set (o+i) u).take (o+(i+1))++X)[j]?=X[j-(o+(i+1))]?:=λX=>by
    have t:((vs.toList.set (o+i) u).take (o+(i+1))).length=o+(i+1):=by rw[AK,OH];omega
    rw[vu (by omega),t]
   have v:∀X:List Value,(vs.toList.take (o+i)++u::X)[j]?=X[j-(o+(i+1))]?:=λX=>by
    rw[vu (by rw[a _ (by omega)];omega),a _ (by omega),show j-(o+i)=(j-(o+(i+1)))+1 by omega,kf]
   rw[s,v];rcases p4 (j-(o+(i+1))) us.length with hu|hu
   ·rw[rf hu,rf hu]
   ·rw[vu hu,vu hu,L3,L3,Hk (by omega)]
    congr 1
    omega
def ve(w:World){t:TypeId}{b off k:Nat}{bl:Bool}{vs:Array Value}{ty:TypeId}{a:Nat×Nat}{v:Value}(e:w.heap[b]?=some (.cells vs ty a))(c:LQ a vs.size)
  (f:eB P t=some (bl,k)) (g:v.cells.size=k) (d:off+k<=vs.size) (h:∀u∈v.cells.toList,u.oneCell'=true):(Instr.storeAt t (.pointer (some ⟨b,off,none⟩)) v).run P w=.ok () (w.setRow b (vs.toList.take off++v.cells.toList++vs.toList.drop (off+v.cells.toList.length)).toArray):=by
 unfold Instr.storeAt;simp only[Instr.sureAddr,fL,mE,iq];unfold storeVar;simp only[fL,jm f,iq];rw[cB (by simp[g])];have:=s5 P b off ty a v.cells.toList 0 vs w e c (by simp only[BO,Xm];omega) h;simpa using this
end
def jx(E:List Nat)(dst:Option Nat)(cells:List AV)(K:Fr->cV->Prop)(fr:Fr)(H:cV):Prop:=
 match dst with
 |some d=>
  if E.contains d=true then K {fr with env:=fF fr.env d (.ei H.length 0)} (H++[cells.map AV.jU])
  else K {fr with env:=fF fr.env d (.dc d (fr.gen d+1) 0),box:=fF fr.box d (some cells),gen:=fF fr.gen d (fr.gen d+1)} H
 |none=>False
def lA(P:Program)(t:TypeId)(x v:AV)(K:Fr->cV->Prop)(fr:Fr)(H:cV):Prop:=
 match eB P t with
 |none=>False|some (_,n)=>
  match x with
  |.dc b g off=>
   match fr.box b with
   |some cs=>g=fr.gen b/\v.cells.length=n/\off+n<=cs.length/\ek v=true/\K {fr with box:=fF fr.box b (some (setCells cs off v.cells))} H|none=>False
  |.ei o off=>
   match H[o]?with
   |some cs=>vX cs=true/\v.cells.length=n/\off+n<=cs.length/\ek v=true/\K fr (H.set o (setCells cs off v.norm.cells))|none=>False
  |_=>False
section
variable{P:Program} {T:dA} {n:Nat} {G0:Nat->Nat} {F0:jH} {n0:Nat} {w0:World} {fr:Fr} {H:cV} {a:Act} {w:World}
def AV.qv{x:AV}(h:ek x=true):x.norm.cells=x.cells.map AV.jU:=by
 cases x<;>first|rfl|(simp[ek] at h)
def wY{cs:List AV}(h:∀c∈cs,c.fA=true):∀c∈cs.map AV.jU,c.fA=true:=by
 intro c a;obtain⟨x,b,rfl⟩:=mO.1 a;rw[AV.Bm];exact h x b
def jG{F:jH}{ρ:Maps}{cs:List AV}{vs:List Value}(h:gi (iR F ρ) cs vs)(a:∀c∈cs,c.fA=true):∀u∈vs,u.oneCell'=true:=by
 intro u hu;obtain⟨x,b,d⟩:=h.mem hu;exact d.Gg (a x b)
def Bh{ρ:Maps}{F:jH}{R:Nat->mU}(h:WR T n w0.heap.size ρ F R fr H a w)(p:Ext w0.heap.size G0 F0 n0 w0 ρ.G F H.length w){E:List Nat}{dst:Option Nat}{cells:List AV}{K:Fr->cV->Prop}
  (i:jx E dst cells K fr H) (r:∀d,dst=some d->d<n) {vs:Array Value} (ty:TypeId) (k:gi (iR F ρ) cells vs.toList) (e:∀c∈cells,c.fA=true):∃fr' H',K fr' H'/\SR T n G0 F0 n0 w0 fr' H' (a.put dst (.pointer (some ⟨w.heap.size,0,none⟩))) (w.alloc (.cells vs ty)):=by
 unfold jx at i
 split at i
 ·rename_i d;have l:=r d rfl;have q:=h.alloc (.cells vs ty);have b:R w.heap.size=.free:=h.lz _ (hO _);have hF:∀j,F w.heap.size j=none:=λj=>h.g.fresh _ j (hO _);have f:(w.alloc (.cells vs ty)).heap[w.heap.size]?=some (.cells vs ty (0,0)):=heap_alloc_new w _
  split at i
  ·obtain⟨ρ',m,hG,o,hw⟩:=q.S7 b hF f (k.tR AV.jU λ_ _ _ h=>h.jU) (wY e) l;refine⟨_,_,i,ρ',F,m,hw,?_⟩;rw[pJ];exact(p.alloc h.p5 _).WT hG (by rw[o];exact h.p5)
  ·obtain⟨ρ',m,hG,hw⟩:=q.RJ h.p5 b hF f k e l;refine⟨_,_,i,ρ',F,m,hw,?_⟩;rw[hG];exact p.alloc h.p5 _
 ·exact i.elim
def Kj(w:World){t:TypeId}{z:Value}(a:zeroOf P t=some z):(Instr.alloc t true (.tuple #[])).run P w=.ok (.pointer (some ⟨w.heap.size,0,none⟩)) (w.alloc (.cells z.cells t)):=by
 have b:(zeroValue t).run P w=.ok z w:=by
  unfold zeroOf at a;cases hi:P.info? t with
  |none=>rw[hi] at a;cases a
  |some i=>
   rw[hi] at a;simp at a;simp[zeroValue,typeInfo,hi,a]
 unfold Instr.alloc;simp only[fL,b,iq];rfl
def xu{v:Value}(h:wP v=true)(a:∀vs,v≠ .tuple vs):(ofValue v).cells=v.cells.toList.map oc/\∀u∈v.cells.toList,u.oneCell'=true:=by
 cases v with
 |agg cs=>
  refine⟨rfl,λu hu=>?_⟩
  have b:cs.all (·.oneCell')=true:=h
  exact Fh.1 b u (uX.1 hu)
 |tuple vs=>exact absurd rfl (a vs)|_=>
  constructor
  ·rw[Bn rfl];exact AV.w4 (uE _)
  ·simp[Value.cells,Value.oneCell']
def ID{ρ:Maps}{F:jH}{R:Nat->mU}(h:WR T n w0.heap.size ρ F R fr H a w)(E:Ext w0.heap.size G0 F0 n0 w0 ρ.G F H.length w){t:TypeId}{x v:AV}{I p:Value}{K:Fr->cV->Prop}
  (f:lA P t x v K fr H) (r:fl F ρ x I) (j:fl F ρ v p):∃fr' H' w',(Instr.storeAt t I p).run P w=.ok () w'/\K fr' H'/\SR T n G0 F0 n0 w0 fr' H' a w':=by
 unfold lA at f
 split at f
 ·exact f.elim
 ·rename_i bl k J
  split at f
  ·rename_i b g off
   split at f
   ·rename_i cs s;obtain⟨hg,N,u,e,f⟩:=f;obtain⟨rfl,_⟩:=tW r;obtain⟨O,S,L,vs,ty,A,m⟩:=h.box b cs s;have d:=j.cells (gC e);have hlen:=d.length
    have q:p.cells.toList.length=p.cells.size:=by simp
    have B:cs.length=vs.size:=by simpa using m.length
    have fu:=m.setCells d off;rw[hlen] at fu;rw[hg]
    have i:∀c∈setCells cs off v.cells,c.fA=true:=by
     intro c y;simp only[setCells,qW] at y;rcases y with(hm|hm)|hm
     ·exact L c (Ac hm)
     ·exact j.tk (gC e) c hm
     ·exact L c (Ek hm)
    refine⟨_,_,_,ve w A (.inl rfl) J (by omega) (by omega) (jG d (j.tk (gC e))),f,ρ,F,R,h.Pl s (by simpa using fu) i,E.setRow (.inl O) _⟩
   ·exact f.elim
  ·rename_i o off
   split at f
   ·rename_i cs s;obtain⟨z,N,u,e,f⟩:=f;obtain⟨rfl,Q⟩:=ry r;obtain⟨U,A,m⟩:=h.g.ka o cs s;obtain⟨vs,ty,V,rfl,C,m,M⟩:=m.HF z;have d:=j.cells (gC e);have hlen:=d.length
    have q:p.cells.toList.length=p.cells.size:=by simp
    have B:cs.length=vs.size:=by simpa using m.length
    have l:gi (fB F ρ.G ρ.n) v.norm.cells p.cells.toList:=by
     rw[AV.qv e];exact d.tR AV.jU λ_ _ _ h=>h.jU
    rw[<-h.hn] at m;have fu:=m.setCells l off
    have D:v.norm.cells.length=v.cells.length:=by rw[AV.qv e];simp
    rw[D,hlen] at fu
    have i:∀c∈setCells cs off v.norm.cells,c.fA=true:=by
     intro c y;simp only[setCells,qW] at y;rcases y with(hm|hm)|hm
     ·exact M c (Ac hm)
     ·rw[AV.qv e] at hm;exact wY (j.tk (gC e)) c hm
     ·exact M c (Ek hm)
    refine⟨_,_,_,ve w A C J (by omega) (by omega) (jG d (j.tk (gC e))),f,ρ,F,R,h.Qm s z (by simpa using fu) (by simp only[setCells,pJ,AK,UD];omega) i,?_⟩;rw[OH];exact E.setRow (.inr ⟨o,by rw[<-h.hn];exact Q,rfl⟩) _
   ·exact f.elim
  ·exact f.elim
end
end Go.ky
namespace Go.ky
open Go
def nM(P:Program)(t:TypeId):Option (TypeId×Nat):=
 match P.underlying t with
 |some (.slice e)=>
  match P.info? e with
  |some i=>
   match i.zero with
   |some z=>if z.cells.size=i.size/\i.bytes<=128/\0<i.size/\z.cells.toList.all Value.oneCell'=true then some (e,i.size)else none|none=>none
  |none=>none
 |_=>none
def kM:Nat:=1099511627776
section
variable{P:Program}
def mB{t e:TypeId}{sz:Nat}(h:nM P t=some (e,sz)):∃i z,P.underlying t=some (.slice e)/\P.info? e=some i/\i.zero=some z/\z.cells.size=sz/\i.size=sz/\i.bytes<=128/\0<sz:=by
 unfold nM at h
 split at h
 ·rename_i f hu
  split at h
  ·rename_i i hi
   split at h
   ·rename_i z b
    split at h
    ·rename_i a;injection h with h;injection h with c d;subst c;subst d;exact⟨i,z,hu,hi,b,a.1,rfl,a.2.1,a.2.2.1⟩
    ·cases h
   ·cases h
  ·cases h
 ·cases h
def fill_flat{sz:Nat}:∀(pv:List Value) (k:Nat) (pre rest:List Value),(∀v∈pv,v.cells.size=sz)->pre.length=k*sz->rest.length=pv.length*sz->Instr.fill (λi=>some (i*sz,sz)) (pre++rest).toArray ((pv.zipIdx k).map λx=>(x.2,x.1))=some (pre++pv.flatMap λv=>v.cells.toList).toArray:=by
 intro pv
 induction pv with
 |nil=>
  intro k pre rest _ _ f;have:rest=[]:=xZ (by simpa using f);subst this;simp[Instr.fill]
 |cons v pv j=>
  intro k pre rest d g f;have h:=d v (by simp)
  have e:v.cells.toList.length=sz:=by simp[h]
  rw[jW,w9,NB] at f;have a:=foldl_set v.cells.toList 0 (k*sz) (pre++rest).toArray (by simp only[L_,pJ,BO];omega);simp only[BO,e] at a
  have l:(pre++rest).toArray.toList.take (k*sz)=pre:=by simp[<-g]
  have m:(pre++rest).toArray.toList.drop (k*sz+sz)=rest.drop sz:=by
   simp only[];rw[List.drop_append];rw[IT (by omega),mI,<-g]
   congr 1
   omega
  rw[l,m] at a;have c:=j (k+1) (pre++v.cells.toList) (rest.drop sz) (λu hu=>d u (by simp[hu])) (by rw[pJ,g,e,w9,NB]) (by rw[UD,f];omega);simp only[List.zipIdx_cons,mi]
  show(if(decide (v.cells.size≠sz)||decide (k*sz+v.cells.size>(pre++rest).toArray.size))=true then none
   else Instr.fill (λi=>some (i*sz,sz)) (v.cells.zipIdx.foldl (λcs (x:Value×Nat)=>cs.setIfInBounds (k*sz+x.2) x.1) (pre++rest).toArray) ((pv.zipIdx (k+1)).map λx=>(x.2,x.1)))=_
  rw[cB (by simp only[h,L_,pJ];simp;omega),<-Xu,Q4]
  have b:List.foldl (λcs (x:Value×Nat)=>cs.setIfInBounds (k*sz+x.2) x.1) (pre++rest).toArray v.cells.toList.zipIdx=(pre++v.cells.toList++rest.drop sz).toArray:=by
   apply B4.1;rw[a]
  rw[b,c];simp[xY,so]
end
section
variable{T:dA} {n B0:Nat} {ρ:Maps} {F:jH} {R:Nat->mU} {fr:Fr} {H:cV} {a:Act} {w:World}
def jE(F:jH)(b k:Nat)(vs:List Value):jH:=λa j=>if a=b/\j<k then vs[j]?else F a j
def vQ(F:jH)(b:Nat)(vs:List Value):(jE F b vs.length vs).has b 0 vs:=by
 intro i v a;show(if b=b/\0+i<vs.length then vs[0+i]?else F b (0+i))=some v;rw[sy,cG ⟨rfl,(oM.1 a).1⟩];exact a
def WR.freeze(h:WR T n B0 ρ F R fr H a w){b:Nat}{vs:Array Value}{ty:TypeId}{k:Nat}{us:List Value}(i:R b=.free)(hF:∀j,F b j=none)
  (z:w.heap[b]?=some (.cells vs ty (0,0))) (t:DY vs) (A:∀j v,j<k->us[j]?=some v->vs[j]?=some v):ta F (jE F b k us) ρ ρ/\WR T n B0 ρ (jE F b k us) R fr H a w:=by
 have hold:∀f j v,F f j=some v->jE F b k us f j=some v:=by
  intro f j v p;unfold jE;rw[cB]
  ·exact p
  ·rintro⟨rfl,_⟩;rw[hF j] at p;cases p
 have e:∀f j,f≠b->jE F b k us f j=F f j:=by
  intro f j B;unfold jE;rw[cB (λh=>B h.1)]
 have q:∀G n,Ca F (jE F b k us) G G n n:=λG n=>⟨hold,hO _,λ_ _=>rfl⟩;have r:ta F (jE F b k us) ρ ρ:=⟨q _ _,λ_=>hO _,λ_ _ _=>rfl,λ_=>hO _,λ_ _ _=>rfl⟩;refine⟨r,⟨⟨?_,?_,h.g.inj,?_,?_,λg x N=>(h.g.x0 g x N).grow (q _ _),?_⟩,h.size,h.defers,h.env.grow r,h.hn,h.lg,h.ag,?_,?_,?_,h.nZ,h.lz,h.p5⟩⟩
 ·intro f j v p;unfold jE at p
  split at p
  ·rename_i O;obtain⟨rfl,C⟩:=O;rw[cell_of_row w f j vs ty (0,0) z];exact A j v C p
  ·exact h.g.Ce f j v p
 ·intro o cs y;obtain⟨D,u,s⟩:=h.g.ka o cs y;exact⟨D,u,s.grow (q _ _)⟩
 ·intro o j y E;rw[e]
  ·exact h.g.gF o j y E
  ·rintro rfl;have:=h.nZ o y;rw[i] at this;cases this
 ·intro f j l;rw[e]
  ·exact h.g.fresh f j l
  ·rintro rfl;have:=nF z;omega
 ·intro P f j v p
  by_cases l:f=b
  ·subst l;exact⟨vs,ty,_,z,.inl rfl,t⟩
  ·rw[e _ _ l] at p;exact h.g.row P f j v p
 ·intro d cs Q;obtain⟨u,s,I,vs',J,K,L⟩:=h.box d cs Q;exact⟨u,s,I,vs',J,K,L.mono λ_ _ _ h=>h.grow r⟩
 ·intro k' m S f c sz U;obtain⟨u,s,I,M,K,L⟩:=h.tok k' m S f c sz U;refine⟨u,s,I,M,K,λj C=>?_⟩;rw[e]
  ·exact L j C
  ·rintro rfl;rw[i] at s;cases s
 ·intro f j v p
  by_cases l:f=b
  ·subst l;rw[i];simp
  ·rw[e _ _ l] at p;exact h.qK f j v p
def th{F:jH}{b k:Nat}{us:List Value}{a j:Nat}(h:a≠b):jE F b k us a j=F a j:=by
 unfold jE;rw[cB (λc=>h c.1)]
end
def k1(P:Program)(t n:Nat)(parts:List (Nat×AV)):Option AV:=
 match nM P t with
 |some (_,sz)=>
  if parts.map (·.1)=List.range n/\parts.all (λp=>p.2.cells.length==sz&&ek p.2)=true/\n*sz<=16777216 then some (.slice .full (parts.map λp=>p.2.norm))else none
 |none=>none
def BL{α:Type}(parts:List (Nat×α))(n:Nat)(h:parts.map (·.1)=List.range n):parts=(parts.map (·.2)).zipIdx.map λx=>(x.2,x.1):=by
 have c:parts.length=n:=by have:=congrArg List.length h;simpa using this
 apply List.ext_getElem
 ·simp
 ·intro i b d
  have a:(parts.map (·.1))[i]?=(List.range n)[i]?:=by rw[h]
  simp only[uZ,na b,KG,Th (show i<n by omega),u6] at a;simp only[List.getElem_map,List.getElem_zipIdx,sy];exact Prod.ext a rfl
section
variable{P:Program} {T:dA} {n:Nat} {G0:Nat->Nat} {F0:jH} {n0:Nat} {w0:World} {fr:Fr} {H:cV} {a:Act} {w:World}
def BV(w:World){t e:TypeId}{sz:Nat}(h:nM P t=some (e,sz)):(Instr.buildSlice t 0 #[]).run P w=.ok (.slice (some ⟨w.heap.size,0,none⟩) 0 0) (w.alloc (.cells #[] e)):=by
 obtain⟨i,z,hu,hi,b,_⟩:=mB h;simp[Instr.buildSlice,run_underlying hu,sizeOf,typeInfo,hi,Instr.fill,newRow]
 have a:((Array.range 0).map λ_=>(default:Value))=#[]:=by
  apply P3;simp
 rw[a]
def J9{F:jH}{ρ:Maps}:∀{parts:List (Nat×AV)} {pv:List (Nat×Value)},gi (λ(x:Nat×AV) (y:Nat×Value)=>x.1=y.1/\fl F ρ x.2 y.2) parts pv->(∀p∈parts,ek p.2=true)->gi (fB F ρ.G ρ.n) ((parts.map λp=>p.2.norm).flatMap AV.cells) ((pv.map (·.2)).flatMap λv=>v.cells.toList)/\∀c∈(parts.map λp=>p.2.norm).flatMap AV.cells,c.fA=true:=by
 intro parts pv h hn
 induction h with
 |nil=>exact⟨.nil,by simp⟩|@cons p q ps j d _ e=>
  obtain⟨i1,i2⟩:=e λp f=>hn p (by simp[f]);have a:=hn p (by simp);have g:=d.2.cells (gC a);have i:=d.2.tk (gC a)
  have b:gi (fB F ρ.G ρ.n) p.2.norm.cells q.2.cells.toList:=by
   rw[AV.qv a];exact g.tR AV.jU λ_ _ _ h=>h.jU
  refine⟨?_,?_⟩
  ·simp only[mi,xY];exact b.append i1
  ·intro c hcm;simp only[mi,xY,qW] at hcm;rcases hcm with hcm|hcm
   ·rw[AV.qv a] at hcm;exact wY i c hcm
   ·exact i2 c hcm
def vM{ρ:Maps}{F:jH}(w:World){t k:Nat}{parts:List (Nat×AV)}{pv:List (Nat×Value)}{r:AV}
  (g:k1 P t k parts=some r) (b:gi (λ(x:Nat×AV) (y:Nat×Value)=>x.1=y.1/\fl F ρ x.2 y.2) parts pv):∃l us e sz,r=.slice .full l/\l.length=k/\k<=maxLen/\(∀x∈l,x.cells.length=sz)/\gi (fB F ρ.G ρ.n) (l.flatMap AV.cells) us/\(∀c∈l.flatMap AV.cells,c.fA=true)/\(Instr.buildSlice t k pv.toArray).run P w=.ok (.slice (some ⟨w.heap.size,0,none⟩) k k) (w.alloc (.cells us.toArray e)):=by
 unfold k1 at g
 split at g
 ·rename_i e sz A
  split at g
  ·rename_i L;obtain⟨j,B,M⟩:=L;injection g with g;subst g;obtain⟨i,z,hu,hi,N,O,m,Q,h⟩:=mB A
   have a:∀p∈parts,p.2.cells.length=sz/\ek p.2=true:=by
    intro p d;have:=jr.1 B p d;simpa using this
   have o:parts.length=k:=by have:=congrArg List.length j;simpa using this
   have s:pv.length=k:=by rw[<-b.length];exact o
   have C:pv.map (·.1)=List.range k:=by
    rw[<-j];clear j B a o s
    induction b with
    |nil=>rfl|cons H _ R=>simp only[mi,R,H.1]
   have D:=BL pv k C
   have I:∀v∈pv.map (·.2),v.cells.size=sz:=by
    intro v S;obtain⟨q,T,rfl⟩:=mO.1 S;obtain⟨p,d,U⟩:=b.mem T;have H:=U.2.cells (gC (a p d).2);have:=H.length;rw[(a p d).1] at this;simpa using this.symm
   obtain⟨u,f⟩:=J9 b λp d=>(a p d).2
   have E:(Instr.buildSlice t k pv.toArray).run P w=.ok (.slice (some ⟨w.heap.size,0,none⟩) k k) (w.alloc (.cells ((pv.map (·.2)).flatMap λv=>v.cells.toList).toArray e)):=by
    rcases Nat.eq_zero_or_pos k with J|hkpos
    ·subst J;have:pv=[]:=xZ s;subst this;exact BV w A
    ·have K:=fill_flat (sz:=sz) (pv.map (·.2)) 0 [] ((Array.range (k*sz)).map (z.cells[· %z.cells.size]!)).toList I (by simp) (by simp[s])
     rw[<-D] at K;simp only[mI,QZ] at K;exact run_buildSlice w t e k pv.toArray _ i z hu hi N (by rw[m];omega) (by rw[m];have:=Nat.mul_pos hkpos h;omega) (by rw[m];exact K)
   refine⟨parts.map λp=>p.2.norm,_,e,sz,rfl,by simp[o],?_,?_,u,f,E⟩
   ·have:k<=k*sz:=Qo k h;simp only[maxLen];omega
   ·intro x V;obtain⟨p,d,rfl⟩:=mO.1 V;rw[AV.qv (a p d).2,BK];exact(a p d).1
  ·cases g
 ·cases g
def Ai{ρ:Maps}{F:jH}{R:Nat->mU}(h:WR T n w0.heap.size ρ F R fr H a w)(D:Ext w0.heap.size G0 F0 n0 w0 ρ.G F H.length w){t k:Nat}{parts:List (Nat×AV)}{pv:List (Nat×Value)}{r:AV}
  {dst:Option Nat} (A:k1 P t k parts=some r) (i:gi (λ(x:Nat×AV) (y:Nat×Value)=>x.1=y.1/\fl F ρ x.2 y.2) parts pv) (E:∀d,dst=some d->d<n):∃v w',(Instr.buildSlice t k pv.toArray).run P w=.ok v w'/\SR T n G0 F0 n0 w0 (fr.put dst r) H (a.put dst v) w':=by
 obtain⟨l,us,e,sz,rfl,B,AT,s,c,f,m⟩:=vM w A i;have q:=heap_alloc_new w (.cells us.toArray e);obtain⟨z,hw⟩:=(h.alloc (.cells us.toArray e)).freeze (us:=us) (k:=us.length) (h.lz _ (hO _)) (λj=>h.g.fresh _ j (hO _)) q (λu hu=>jG (c.mono λ_ _ _ h=>iR.p h) f u (by simpa using hu)) (by intro j v _ I;simpa using I);refine⟨_,_,m,ρ,_,R,hw.put E (x:=.slice .full l) (v:=.slice (some ⟨w.heap.size,0,none⟩) k k) ?_,?_⟩
 ·have C:=fB.slice (F:=jE F w.heap.size us.length us) (G:=ρ.G) (n:=ρ.n) (tag:=.full) (l:=l) (b:=w.heap.size) (o:=0) (base:=some ⟨w.heap.size,0,none⟩) (cap:=l.length) (sz:=sz)
   (.nJ (c.mono λ_ _ _ h=>h.grow z.g)) (vQ _ _ _) (λ_=>rfl) s f (hO _) (by rw[B];exact AT) (.inr ⟨rfl,rfl⟩)
  rw[B] at C;exact .p C
 ·exact(D.alloc h.p5 (.cells us.toArray e)).freeze (F':=jE F w.heap.size us.length us) λb j A=>th (by have:=h.p5;omega)
end
def mj(fr:Fr)(tag:Tag)(l:List AV):Bool:=
 match tag with
 |.eh=>false|.full=>true|.loc k g=>g==fr.ea k&&fr.qS k==some l.length
def rq(tag:Tag)(qS:Nat->Option Nat):Nat->Option Nat:=
 match tag with
 |.loc k _=>fF qS k none|_=>qS
def grown(fr:Fr)(d:Nat)(tag:Tag)(l m:List AV):Fr:=
 {fr with env:=fF fr.env d (.slice (.loc d (fr.ea d+1)) (l++m)),qS:=fF (rq tag fr.qS) d (some (l.length+m.length)),ea:=fF fr.ea d (fr.ea d+1)}
def lk(P:Program)(T:dA)(c:Call)(dst:Option Nat)(K:Fr->cV->Prop)(fr:Fr)(H:cV):Prop:=
 match dst,c.args.toList,c.argTypes.toList with
 |some d,[s,x],[t,a]=>
  match nM P t,ev T fr s,ev T fr x with
  |some (_,sz),.slice tag l,.slice _ m=>
   a=t/\kg sz l=true/\kg sz m=true/\l.length+m.length<=kM/\(if mj fr tag l=true then K (grown fr d tag l m) H else m=[]/\K (fr.put (some d) (.slice .eh l)) H)
  |_,_,_=>False
 |_,_,_=>False
section
variable{P:Program} {T:dA} {n:Nat} {G0:Nat->Nat} {F0:jH} {n0:Nat} {w0:World} {fr:Fr} {H:cV} {a:Act} {w:World}
def BP(w:World){t e:TypeId}{sz:Nat}(h:nM P t=some (e,sz))(ty:TypeId)(base:Option Addr)(len cap:Nat)(a:len<=cap)(x:Value)(f:∃b c,x=.slice b 0 c):(Builtin.append_ #[t,t] ty #[.slice base len cap,x]).run P w=.ok (.slice base len cap) w:=by
 obtain⟨i,z,hu,hi,m,g,j,k,d⟩:=mB h;obtain⟨b,c,rfl⟩:=f;cases b with
 |none=>
  cases base with
  |none=>simp[Builtin.append_,run_underlying hu,sizeOf,typeInfo,hi,Builtin.lenOf,a,Builtin.firstCells]|some l=>simp[Builtin.append_,run_underlying hu,sizeOf,typeInfo,hi,Builtin.lenOf,a,Builtin.firstCells,storeCells]
 |some b=>
  cases base with
  |none=>simp[Builtin.append_,run_underlying hu,sizeOf,typeInfo,hi,Builtin.lenOf,a,Builtin.firstCells,loadCells,loadCellsFrom]|some l=>simp[Builtin.append_,run_underlying hu,sizeOf,typeInfo,hi,Builtin.lenOf,a,Builtin.firstCells,storeCells,loadCells,loadCellsFrom]
def ui(w:World)(t ty e n:TypeId)(i:TypeInfo)(o:P.underlying t=some (.slice e))(hi:P.info? e=some i)
  (g b d:Nat) (cur:Array Value) (hg:w.heap[g]?=some (.cells cur n (0,0)))
  (a:Addr) (m c:Nat) (news:List Value) (p:news.length=m*i.size) (f:∀j u,news[j]?=some u->w.cell? (a.add j)=some u) (q:∀u∈news,u.oneCell'=true)
  (h:b+m<=d) (k:b*i.size+news.length<=cur.size):(Builtin.append_ #[t,t] ty #[.slice (some ⟨g,0,none⟩) b d,.slice (some a) m c]).run P w=.ok (.slice (some ⟨g,0,none⟩) (b+m) d) (w.setRow g (cur.toList.take (b*i.size)++news++cur.toList.drop (b*i.size+news.length)).toArray):=by
 have r:=run_firstCells_some (P:=P) w i.size m a m c news p f;have l:=run_storeCells_at P g (b*i.size) n news 0 cur w hg (by simpa using k) q;simp only[BO] at l;simp[Builtin.append_,run_underlying o,sizeOf,typeInfo,hi,Builtin.lenOf,h,r,Addr.add_lit,l]
def WR.rename{ρ:Maps}{F:jH}{R:Nat->mU}{B0:Nat}(h:WR T n B0 ρ F R fr H a w){tag:Tag}{l:List AV}{base:Option Addr}{cap:Nat}{d:Nat}(hd:d<n)
  (hp:fB F ρ.G ρ.n (.slice .eh l) (.slice base l.length cap)) (y:tag=.full/\cap=l.length\/∃k g,tag=.loc k g/\g=fr.ea k/\fr.qS k=some l.length/\qm ρ k g l base cap):∃ρ' Q,ρ'.G=ρ.G/\ρ'.n=ρ.n/\(∀k g,tag=.loc k g->ρ'.A d (fr.ea d+1)=ρ.A k g)/\ρ'.ag d=fr.ea d+1/\WR T n B0 ρ' F Q (grown fr d tag l []) H (a.put (some d) (.slice base l.length cap)) w:=by
 let f:Option (Nat×Nat×Nat):=match tag with|.loc k g=>ρ.A k g|_=>none
 let ρ':Maps:={ρ with A:=pE ρ.A d (fr.ea d+1) f,ag:=fF ρ.ag d (fr.ea d+1)}
 let Q:Nat->mU:=match f with|some (b,_,_)=>fF R b (.arr d)|none=>R
 have B:ta F F ρ ρ':=by
  refine⟨.refl,λ_=>hO _,λ_ _ _=>rfl,λk=>?_,λk g hg=>?_⟩
  ·show ρ.ag k<=fF ρ.ag d (fr.ea d+1) k;unfold fF
   split
   ·rename_i S;subst S;rw[h.ag];omega
   ·exact hO _
  ·show pE ρ.A d (fr.ea d+1) f k g=ρ.A k g;unfold pE;rw[cB];rintro⟨rfl,rfl⟩;rw[h.ag] at hg;omega
 have i:∀b c sz,f=some (b,c,sz)->∃k g,tag=.loc k g/\g=fr.ea k/\fr.qS k=some l.length/\ρ.A k (fr.ea k)=some (b,c,sz)/\base=some ⟨b,0,none⟩/\cap=c/\∀x∈l,x.cells.length=sz:=by
  intro b c sz q;rcases y with⟨rfl,_⟩|⟨k,g,rfl,rfl,z,t⟩
  ·exact absurd q (by simp[f])
  ·refine⟨k,_,rfl,rfl,z,q,?_⟩;unfold qm at t;have C:ρ.A k (fr.ea k)=some (b,c,sz):=q;rw[C] at t;exact t
 have D:∀J,(∀k,R J≠ .arr k)->Q J=R J:=by
  intro J W;show(match f with|some (b,_,_)=>fF R b (.arr d)|none=>R) J=R J;cases q:f with
  |none=>rfl|some p=>
   obtain⟨b,c,sz⟩:=p;obtain⟨k,g,_,_,z,r,_⟩:=i b c sz q;have K:=(h.tok k _ z b c sz r).2.1;simp only[fF];rw[cB];rintro rfl;exact W k K
 have M:qm ρ' d (fr.ea d+1) l base cap:=by
  unfold qm
  have e:ρ'.A d (fr.ea d+1)=f:=by show pE ρ.A d (fr.ea d+1) f d (fr.ea d+1)=f;simp[pE]
  rw[e];cases q:f with
  |none=>
   rcases y with⟨_,hc⟩|⟨k,g,rfl,rfl,z,t⟩
   ·exact hc
   ·unfold qm at t;have C:ρ.A k (fr.ea k)=none:=q;rw[C] at t;exact t
  |some p=>
   obtain⟨b,c,sz⟩:=p;obtain⟨_,_,_,_,_,_,X,U,Y⟩:=i b c sz q;exact⟨X,U,Y⟩
 refine⟨ρ',Q,rfl,rfl,?_,by show fF ρ.ag d (fr.ea d+1) d=_;simp[fF],⟨⟨h.g.Ce,h.g.ka,h.g.inj,h.g.gF,h.g.fresh,h.g.x0,h.g.row⟩,by rw[zI];exact h.size,by rw[put_defers];exact h.defers,?_,h.hn,h.lg,?_,?_,?_,?_,?_,?_,h.p5⟩⟩
 ·rintro k g rfl;show pE ρ.A d (fr.ea d+1) f d (fr.ea d+1)=ρ.A k g;simp[pE,f]
 ·have h0:=(h.env.grow B).put (d:=some d) (by intro E he;injection he with he;subst he;rw[h.size];exact hd) (x:=.slice (.loc d (fr.ea d+1)) l) (v:=.slice base l.length cap)
   (.cell (.loc (hp.grow B.g) (by show _<=fF ρ.ag d (fr.ea d+1) d;simp[fF]) M))
  simp only[grown,xm];exact h0
 ·intro k;show fF ρ.ag d (fr.ea d+1) k=fF fr.ea d (fr.ea d+1) k;unfold fF
  split
  ·rfl
  ·exact h.ag k
 ·intro E cs Z;obtain⟨X,U,Y,vs,ty,h4,h5⟩:=h.box E cs Z;exact⟨X,by rw[D _ (by intro k;show R (ρ.L E (fr.gen E))≠_;rw[U];simp)];exact U,Y,vs,ty,h4,h5.mono λ_ _ _ h=>h.grow B⟩
 ·intro k m s b c sz q;simp only[grown,fF] at s
  by_cases u:k=d
  ·subst u;simp only[if_true,tH,BO,u6] at s;subst s
   have N:(grown fr k tag l []).ea k=fr.ea k+1:=by simp[grown,fF]
   rw[N] at q
   have V:ρ'.A k (fr.ea k+1)=f:=by show pE ρ.A k (fr.ea k+1) f k (fr.ea k+1)=f;simp[pE]
   rw[V] at q;obtain⟨k2,g2,_,_,z,r,aj,ak,al⟩:=i b c sz q;obtain⟨N,V,e3,aa,O,e5⟩:=h.tok k2 _ z b c sz r;refine⟨N,?_,e3,aa,O,e5⟩;show(match f with|some (b,_,_)=>fF R b (.arr k)|none=>R) b=.arr k;rw[q];simp[fF]
  ·simp only[cB u] at s
   have N:(grown fr d tag l []).ea k=fr.ea k:=by simp[grown,fF,u]
   rw[N] at q
   have V:ρ'.A k (fr.ea k)=ρ.A k (fr.ea k):=by show pE ρ.A d (fr.ea d+1) f k (fr.ea k)=_;simp[pE,u]
   rw[V] at q
   have P:fr.qS k=some m/\∀k2 g2,tag=.loc k2 g2->k≠k2:=by
    unfold rq at s
    split at s
    ·rename_i k2 g2;simp only[fF] at s
     split at s
     ·cases s
     ·rename_i ab;refine⟨s,λk3 g3 he=>?_⟩;injection he with ad an;subst ad;exact ab
    ·rename_i ae;exact⟨s,λk3 g3 he=>absurd he (ae k3 g3)⟩
   obtain⟨e3,O,e5,af,e6,e7⟩:=h.tok k m P.1 b c sz q;refine⟨e3,?_,e5,af,e6,e7⟩;show(match f with|some (b,_,_)=>fF R b (.arr d)|none=>R) b=.arr k;cases ah:f with
   |none=>exact O|some p=>
    obtain⟨b3,c3,I⟩:=p;obtain⟨k2,g2,ai,_,z,r,_⟩:=i b3 c3 I ah;have K:=(h.tok k2 _ z b3 c3 I r).2.1;simp only[fF];rw[cB]
    ·exact O
    ·rintro rfl;rw[O] at K;injection K with K;exact P.2 k2 g2 ai K
 ·intro b j v hf;intro E;have S:=h.qK b j v hf E;show(match f with|some (b,_,_)=>fF R b (.arr d)|none=>R) b≠ .box E;cases q:f with
  |none=>exact S|some p=>
   obtain⟨b3,c3,I⟩:=p;simp only[fF]
   split
   ·simp
   ·exact S
 ·intro o t;have:=h.nZ o t;rw[D _ (by intro k;show R (ρ.G o)≠_;rw[this];simp)];exact this
 ·intro b hb;have:=h.lz b hb;rw[D b (by rw[this];simp)];exact this
end
end Go.ky
namespace Go.ky
open Go
def Gp{α:Type}(f:Nat->α)(i:Nat)(x y:α):fF (fF f i x) i y=fF f i y:=by
 funext j
 unfold fF
 split<;>rfl
def vx{α:Type}(f:Nat->α)(i j:Nat)(x:α)(h:j≠i):fF f i x j=f j:=by simp[fF,h]
def tf{a:Array Value}(h:∀u∈a.toList,u.oneCell'=true)(c:0<a.size)(k:Nat):∀u∈(Builtin.zeroCells a k).toList,u.oneCell'=true:=by
 intro u hu;unfold Builtin.zeroCells at hu;simp only[UE,mO] at hu;obtain⟨i,_,rfl⟩:=hu;have b:i%a.size<a.size:=Q8 _ c;rw[getElem!_pos a _ b];exact h _ (by simp)
def I5{P:Program}{t e:TypeId}{sz:Nat}(h:nM P t=some (e,sz)){i:TypeInfo}{z:Value}(hi:P.info? e=some i)(b:i.zero=some z):∀u∈z.cells.toList,u.oneCell'=true:=by
 unfold nM at h
 split at h
 ·rename_i f hu
  split at h
  ·rename_i g hi'
   split at h
   ·rename_i j a
    split at h
    ·rename_i c;injection h with h;injection h with d k;subst d;rw[hi] at hi';cases hi';rw[b] at a;cases a
     exactλu hu=>jr.1 c.2.2.2 u hu
    ·cases h
   ·cases h
  ·cases h
 ·cases h
section
variable{P:Program} {T:dA} {n B0:Nat} {ρ:Maps} {F:jH} {R:Nat->mU} {fr:Fr} {H:cV} {a:Act} {w:World}
def WR.extend(h:WR T n B0 ρ F R fr H a w){d p q b c sz:Nat}{news:List Value}(ht:fr.qS d=some p)(hA:ρ.A d (fr.ea d)=some (b,c,sz))(hq:news.length=q*sz)(B:p+q<=c)(E:∀u∈news,u.oneCell'=true)
  {cur:Array Value} {ty:TypeId} (U:w.heap[b]?=some (.cells cur ty (0,0))):∃F',ta F F' ρ ρ/\(∀e j,e≠b->F' e j=F e j)/\(∀(j:Nat) (v:Value),news[j]?=some v->F' b (p*sz+j)=some v)/\WR T n B0 ρ F' R {fr with qS:=fF fr.qS d (some (p+q))} H a (w.setRow b (cur.toList.take (p*sz)++news++cur.toList.drop (p*sz+news.length)).toArray):=by
 obtain⟨h1,W,h3,X,⟨vs,s,V,h5,L⟩,Y⟩:=h.tok d p ht b c sz hA;rw[U] at V;injection V with V;injection V with Z M;subst Z;subst M;have aa:(p+q)*sz<=c*sz:=HO _ B;rw[w9] at aa
 have ab:p*sz<=cur.toList.length:=by simp;omega
 let F':jH:=λe j=>if e=b/\p*sz<=j/\j<p*sz+news.length then news[j-p*sz]?else F e j
 have hold:∀e j v,F e j=some v->F' e j=some v:=by
  intro e j v l;show(if e=b/\p*sz<=j/\j<p*sz+news.length then news[j-p*sz]?else F e j)=some v;rw[cB]
  ·exact l
  ·rintro⟨rfl,C,_⟩;rw[Y j C] at l;cases l
 have f:∀e j,e≠b->F' e j=F e j:=by
  intro e j t;show(if e=b/\p*sz<=j/\j<p*sz+news.length then news[j-p*sz]?else F e j)=F e j;rw[cB (λh=>t h.1)]
 have N:∀(j:Nat) (v:Value),news[j]?=some v->F' b (p*sz+j)=some v:=by
  intro j v hv;have C:=(oM.1 hv).1;show(if b=b/\p*sz<=p*sz+j/\p*sz+j<p*sz+news.length then news[p*sz+j-p*sz]?else F b (p*sz+j))=some v;rw[cG ⟨rfl,by omega,by omega⟩,Nat.add_sub_cancel_left];exact hv
 have I:∀G n,Ca F F' G G n n:=λG n=>⟨hold,hO _,λ_ _=>rfl⟩;have J:ta F F' ρ ρ:=⟨I _ _,λ_=>hO _,λ_ _ _=>rfl,λ_=>hO _,λ_ _ _=>rfl⟩
 have y:∀e,R e≠ .arr d->e≠b:=by rintro e i rfl;exact i W
 have D:DY (cur.toList.take (p*sz)++news++cur.toList.drop (p*sz+news.length)).toArray:=by
  intro u hu;simp only[qW] at hu;rcases hu with(hu|hu)|hu
  ·exact L u (Ac hu)
  ·exact E u hu
  ·exact L u (Ek hu)
 have r:=setRow_heap w b cur (cur.toList.take (p*sz)++news++cur.toList.drop (p*sz+news.length)).toArray ty (0,0) U;refine⟨F',J,f,N,⟨⟨?_,?_,h.g.inj,?_,?_,λg x hx=>(h.g.x0 g x hx).grow (I _ _),?_⟩,h.size,h.defers,h.env.grow J,h.hn,h.lg,h.ag,?_,?_,?_,h.nZ,?_,by rw[size_setRow];exact h.p5⟩⟩
 ·intro e j v l
  by_cases i:e=b
  ·subst i;rw[cell_of_row _ e j _ ty (0,0) r];simp only[U0];change (if e=e/\p*sz<=j/\j<p*sz+news.length then news[j-p*sz]?else F e j)=some v at l
   split at l
   ·rename_i hc;rw[so,vu (by rw[AK];omega),AK,P_ ab,rf (by omega)];exact l
   ·rename_i hc
    have C:j<p*sz:=by
     rcases p4 j (p*sz)with h'|h'
     ·exact h'
     ·rw[Y j h'] at l;cases l
    have:=h.g.Ce e j v l;rw[cell_of_row w e j cur ty (0,0) U] at this;rw[so,rf (by rw[AK];omega),He,cG C];simpa using this
  ·rw[cell_setRow_other _ _ _ _ _ i];rw[f _ _ i] at l;exact h.g.Ce e j v l
 ·intro o cs O;obtain⟨ad,g1,g2⟩:=h.g.ka o cs O;refine⟨ad,?_,g2.grow (I _ _)⟩;rw[setRow_other]
  ·exact g1
  ·exact y _ (by rw[h.nZ o (oM.1 O).1];simp)
 ·intro o j O ae;rw[f]
  ·exact h.g.gF o j O ae
  ·exact y _ (by rw[h.nZ o O];simp)
 ·intro e j i;rw[size_setRow] at i;rw[f]
  ·exact h.g.fresh e j i
  ·rintro rfl;have:=nF U;omega
 ·intro hT e j v l
  by_cases i:e=b
  ·subst i;exact⟨_,ty,_,r,.inl rfl,D⟩
  ·rw[f _ _ i] at l;obtain⟨af,ah,ai,g1,g2⟩:=h.g.row hT e j v l;exact⟨af,ah,ai,by rw[setRow_other _ _ _ _ i];exact g1,g2⟩
 ·intro d' cs aj;obtain⟨g1,g2,g3,vs',s,g4,g5⟩:=h.box d' cs aj;refine⟨g1,g2,g3,vs',s,?_,g5.mono λ_ _ _ h=>h.grow J⟩;rw[setRow_other]
  ·exact g4
  ·exact y _ (by rw[g2];simp)
 ·intro k m P e c' Q S;simp only[fF] at P
  by_cases K:k=d
  ·subst K;simp only[if_true,u6] at P;subst P;have z:ρ.A k (fr.ea k)=some (e,c',Q):=S;rw[hA] at z;injection z with z;injection z with Z M;injection M with M e3;subst Z;subst M;subst e3;refine⟨h1,W,⟨by have:=h3.1;omega,B⟩,X,⟨_,ty,r,?_,D⟩,?_⟩
   ·simp only[L_,pJ,AK,UD,Xm];omega
   ·intro j C;rw[w9,<-hq] at C;show(if b=b/\p*sz<=j/\j<p*sz+news.length then news[j-p*sz]?else F b j)=none;rw[cB (by omega)];exact Y j (by omega)
  ·simp only[cB K] at P;obtain⟨g1,g2,g3,ak,⟨vs',s,g4,g5⟩,g6⟩:=h.tok k m P e c' Q S;have t:e≠b:=y _ (by rw[g2];simp[K]);refine⟨g1,g2,g3,ak,⟨vs',s,by rw[setRow_other _ _ _ _ t];exact g4,g5⟩,λj C=>?_⟩;rw[f _ _ t];exact g6 j C
 ·intro e j v l
  by_cases i:e=b
  ·subst i;rw[W];simp
  ·rw[f _ _ i] at l;exact h.qK e j v l
 ·intro e i;rw[size_setRow] at i;exact h.lz e i
def WR.Ng(h:WR T n B0 ρ F R fr H a w){b:Nat}{vs:Array Value}{ty:TypeId}{us:List Value}{c sz:Nat}{tag:Tag}{l m:List AV}{d:Nat}(hd:d<n)(hb:B0<=b)(p:R b=.free)
  (hF:∀j,F b j=none) (U:w.heap[b]?=some (.cells vs ty (0,0))) (y:DY vs) (V:vs.size=c*sz) (W:0<l.length+m.length) (hp:l.length+m.length<=c) (hc:c<=maxLen) (ae:us.length=(l.length+m.length)*sz)
  (E:∀(j:Nat) (v:Value),us[j]?=some v->vs[j]?=some v) (s:fC F ρ.G ρ.n ((l++m).flatMap AV.cells) us) (I:∀x∈(l++m).flatMap AV.cells,x.fA=true) (J:∀x∈l++m,x.cells.length=sz):∃ρ' K,ρ'.G=ρ.G/\WR T n B0 ρ' (jE F b us.length us) K (grown fr d tag l m) H (a.put (some d) (.slice (some ⟨b,0,none⟩) (l.length+m.length) c)) w:=by
 obtain⟨z,M⟩:=h.freeze (k:=us.length) (us:=us) p hF U y (λj v _ hv=>E j v hv)
 let ρ':Maps:={ρ with A:=pE ρ.A d (fr.ea d+1) (some (b,c,sz)),ag:=fF ρ.ag d (fr.ea d+1)}
 let K:Nat->mU:=fF R b (.arr d)
 have t:ta F (jE F b us.length us) ρ ρ':=by
  refine⟨z.g,λ_=>hO _,λ_ _ _=>rfl,λk=>?_,λk g hg=>?_⟩
  ·show ρ.ag k<=fF ρ.ag d (fr.ea d+1) k;unfold fF
   split
   ·rename_i h';subst h';rw[h.ag];omega
   ·exact hO _
  ·show pE ρ.A d (fr.ea d+1) (some (b,c,sz)) k g=ρ.A k g;unfold pE;rw[cB];rintro⟨rfl,rfl⟩;rw[h.ag] at hg;omega
 have B:ta (jE F b us.length us) (jE F b us.length us) ρ ρ':=⟨.refl,t.lg,t.L,t.ag,t.A⟩
 have q:∀f,R f≠ .free->K f=R f:=by
  intro f i;show fF R b (.arr d) f=R f;unfold fF;rw[cB];rintro rfl;exact i p
 have af:∀f,R f≠ .free->f≠b:=by rintro f i rfl;exact i p
 refine⟨ρ',K,rfl,⟨M.g,by rw[zI];exact h.size,by rw[put_defers];exact h.defers,?_,h.hn,h.lg,?_,?_,?_,?_,?_,?_,h.p5⟩⟩
 ·have N:fl (jE F b us.length us) ρ' (.slice (.loc d (fr.ea d+1)) (l++m)) (.slice (some ⟨b,0,none⟩) (l.length+m.length) c):=by
   have hlen:(l++m).length=l.length+m.length:=pJ
   have O:=fB.slice (F:=jE F b us.length us) (G:=ρ'.G) (n:=ρ'.n) (tag:=.eh) (l:=l++m) (b:=b) (o:=0) (base:=some ⟨b,0,none⟩) (cap:=c) (sz:=sz)
    (s.grow z.g) (vQ F b us) (λ_=>rfl) J I (by omega) hc (.inl rfl)
   rw[hlen] at O;rw[<-hlen];refine .cell (.loc (by rw[hlen];exact O) (by show _<=fF ρ.ag d (fr.ea d+1) d;simp[fF]) ?_);unfold qm
   have e:ρ'.A d (fr.ea d+1)=some (b,c,sz):=by show pE ρ.A d (fr.ea d+1) (some (b,c,sz)) d (fr.ea d+1)=_;simp[pE]
   rw[e];exact⟨rfl,rfl,J⟩
  have X:=(M.env.grow B).put (d:=some d) (by intro P he;injection he with he;subst he;rw[h.size];exact hd) N;exact X
 ·intro k;show fF ρ.ag d (fr.ea d+1) k=fF fr.ea d (fr.ea d+1) k;unfold fF
  split
  ·rfl
  ·exact h.ag k
 ·intro P cs Y;obtain⟨X,h2,h3,vs',Z,h4,h5⟩:=M.box P cs Y;exact⟨X,by rw[q _ (by show R (ρ.L P (fr.gen P))≠_;rw[h2];simp)];exact h2,h3,vs',Z,h4,h5.mono λ_ _ _ h=>h.grow B⟩
 ·intro k m' r f c' aa C;simp only[grown,fF] at r
  by_cases u:k=d
  ·subst u;simp only[if_true,u6] at r;subst r
   have Q:(grown fr k tag l m).ea k=fr.ea k+1:=by simp[grown,fF]
   rw[Q] at C
   have D:ρ'.A k (fr.ea k+1)=some (b,c,sz):=by show pE ρ.A k (fr.ea k+1) (some (b,c,sz)) k (fr.ea k+1)=_;simp[pE]
   rw[D] at C;injection C with C;injection C with Q D;injection D with D e3;subst Q;subst D;subst e3;refine⟨hb,by show fF R b (.arr k) b=.arr k;simp[fF],⟨W,hp⟩,hc,⟨vs,ty,U,V,y⟩,λj hj=>?_⟩;show(if b=b/\j<us.length then us[j]?else F b j)=none;rw[cB (by omega)];exact hF j
  ·simp only[cB u] at r
   have Q:(grown fr d tag l m).ea k=fr.ea k:=by simp[grown,fF,u]
   rw[Q] at C
   have D:ρ'.A k (fr.ea k)=ρ.A k (fr.ea k):=by show pE ρ.A d (fr.ea d+1) _ k (fr.ea k)=_;simp[pE,u]
   rw[D] at C
   have ab:fr.qS k=some m':=by
    unfold rq at r
    split at r
    ·simp only[fF] at r
     split at r
     ·cases r
     ·exact r
    ·exact r
   obtain⟨e3,e4,e5,ad,e6,e7⟩:=M.tok k m' ab f c' aa C;exact⟨e3,by rw[q _ (by rw[e4];simp)];exact e4,e5,ad,e6,e7⟩
 ·intro f j v hf
  by_cases i:f=b
  ·subst i;intro P;show fF R f (.arr d) f≠_;simp[fF]
  ·have e:K f=R f:=by show fF R b (.arr d) f=R f;simp[fF,i]
   rw[e];exact M.qK f j v hf
 ·intro o ho;have:=h.nZ o ho;rw[q _ (by show R (ρ.G o)≠_;rw[this];simp)];exact this
 ·intro f i
  have S:f≠b:=by rintro rfl;have:=nF U;omega
  show fF R b (.arr d) f=.free;simp only[fF,cB S];exact h.lz f i
end
section
variable{P:Program} {T:dA} {n:Nat} {G0:Nat->Nat} {F0:jH} {n0:Nat} {w0:World} {fr:Fr} {H:cV} {a:Act} {w:World}
def AW(w:World){t e:TypeId}{sz:Nat}(n:nM P t=some (e,sz))(ty:TypeId)(base:Option Addr)(a d:Nat)(f:List Value)(holds:f.length=a*sz)
  (B:base=none->a=0/\d=0) (C:∀k,base=some k->∀j v,f[j]?=some v->w.cell? (k.add j)=some v)
  (k:Addr) (m c:Nat) (news:List Value) (p:news.length=m*sz) (hn:∀j v,news[j]?=some v->w.cell? (k.add j)=some v) (l:d<a+m) (o:a+m<=kM):∃cap rest,a+m<=cap/\cap<=maxLen/\(∀u∈rest,u.oneCell'=true)/\(f++news++rest).length=cap*sz/\(Builtin.append_ #[t,t] ty #[.slice base a d,.slice (some k) m c]).run P w=.ok (.slice (some ⟨w.heap.size,0,none⟩) (a+m) cap) (w.drew.alloc (.cells (f++news++rest).toArray e)):=by
 obtain⟨i,z,hu,hi,q,r,s,x,A⟩:=mB n;subst s;have h:a+m<=1099511627776:=o
 have g:(a+m)*i.bytes<=140737488355328:=by
  have:=W9 h x;omega
 have AT:a+m<=maxLen:=by simp only[maxLen];omega
 have y:=grownCap_ge w (a+m) d e;have hle:=grownCap_le_maxLen w (a+m) d e AT;refine⟨grownCap w (a+m) d e,(Builtin.zeroCells z.cells (grownCap w (a+m) d e-(a+m))).toList,y,hle,tf (I5 n hi q) (by omega) _,?_,?_⟩
 ·simp only[pJ,Xm,size_zeroCells,r,holds,p,<-w9]
  congr 1
  omega
 ·have D:(f++news++(Builtin.zeroCells z.cells (grownCap w (a+m) d e-(a+m))).toList).toArray=f.toArray++news.toArray++Builtin.zeroCells z.cells (grownCap w (a+m) d e-(a+m)):=by
   apply B4.1;simp
  rw[D];cases base with
  |some b=>
   exact run_append_grow w t ty e i z hu hi q b a d f holds (C b rfl) k m c news p hn l (by omega) (growslice_fits l g)
  |none=>
   obtain⟨rfl,rfl⟩:=B rfl;have:f=[]:=xZ (by simpa using holds);subst this;simp only[sy] at l g h|-;have:=run_append_nil (P:=P) w t ty e i z hu hi q k m c news p hn (by omega) (by omega) (by omega);simpa using this
structure J0 (P:Program) (w:World) (t u e:TypeId) (sz k:Nat) (x:Value) (news:List Value) (ty:TypeId):Prop where
 none:k=0->∀(base:Option Addr) (len cap:Nat),len<=cap->(Builtin.append_ #[t,u] ty #[.slice base len cap,x]).run P w=.ok (.slice base len cap) w
 room:0<k->∀(g sLen sCap:Nat) (cur:Array Value) (e':TypeId),w.heap[g]?=some (.cells cur e' (0,0))->sLen+k<=sCap->sLen*sz+news.length<=cur.size->(Builtin.append_ #[t,u] ty #[.slice (some ⟨g,0,.none⟩) sLen sCap,x]).run P w=.ok (.slice (some ⟨g,0,.none⟩) (sLen+k) sCap) (w.setRow g (cur.toList.take (sLen*sz)++news++cur.toList.drop (sLen*sz+news.length)).toArray)
 grow:0<k->∀(base:Option Addr) (sLen sCap:Nat) (olds:List Value),olds.length=sLen*sz->(base=.none->sLen=0/\sCap=0)->(∀ad,base=some ad->∀j v,olds[j]?=some v->w.cell? (ad.add j)=some v)->sCap<sLen+k->sLen+k<=kM->∃cap rest,sLen+k<=cap/\cap<=maxLen/\(∀u∈rest,u.oneCell'=true)/\(olds++news++rest).length=cap*sz/\(Builtin.append_ #[t,u] ty #[.slice base sLen sCap,x]).run P w=.ok (.slice (some ⟨w.heap.size,0,.none⟩) (sLen+k) cap) (w.drew.alloc (.cells (olds++news++rest).toArray e))
def A3{ρ:Maps}{F:jH}{R:Nat->mU}(h:WR T n w0.heap.size ρ F R fr H a w)(hx:Ext w0.heap.size G0 F0 n0 w0 ρ.G F H.length w){d:Nat}{t u e ty:TypeId}{sz:Nat}{K:Fr->cV->Prop}{tag:Tag}{l m:List AV}{sv xv:Value}{B:List Value}
  (aA:nM P t=some (e,sz)) (aB:fl F ρ (.slice tag l) sv) (aC:kg sz l=true) (src:J0 P w t u e sz m.length xv B ty) (r:fC F ρ.G ρ.n (m.flatMap AV.cells) B) (s:∀y∈m.flatMap AV.cells,y.fA=true)
  (M:∀y∈m,y.cells.length=sz) (aj:l.length+m.length<=kM) (N:d<n)
  (hK:if mj fr tag l=true then K (grown fr d tag l m) H else m=[]/\K (fr.put (some d) (.slice .eh l)) H):∃v w' fr' H',(Builtin.append_ #[t,u] ty #[sv,xv]).run P w=.ok v w'/\K fr' H'/\SR T n G0 F0 n0 w0 fr' H' (a.put (some d) v) w':=by
 obtain⟨base,cap,b,o,aQ,vs,aD,f,ae,ak⟩:=nu aB;rw[aD];obtain⟨i,z,hu,hi,hz,aR,aS,aT,aO⟩:=mB aA;have C:=rJ aC f.sz;have D:fB F ρ.G ρ.n (.slice .eh l) (.slice base l.length cap):=.slice f.cells f.has f.base C f.tk f.GG f.AT (.inl rfl)
 split at hK
 ·rename_i J
  have O:tag=.full/\cap=l.length\/∃k g,tag=.loc k g/\g=fr.ea k/\fr.qS k=some l.length/\qm ρ k g l base cap:=by
   unfold mj at J
   split at J
   ·cases J
   ·exact .inl ⟨rfl,ae rfl⟩
   ·rename_i k g;simp only[eJ,SJ] at J;exact .inr ⟨k,g,rfl,J.1,J.2,(ak k g rfl).2⟩
  by_cases hm:m=[]
  ·subst hm;obtain⟨ρ',R',hG,_,_,_,hw⟩:=h.rename N D O;refine⟨_,_,_,_,src.none rfl _ _ _ f.GG,hK,ρ',F,R',?_,by rw[hG];exact hx⟩;exact hw
  ·have Q:B.length=m.length*sz:=by rw[<-r.length,pd M]
   have I:vs.length=l.length*sz:=by rw[<-f.cells.length,pd C]
   have S:0<m.length:=S3.2 hm
   by_cases E:l.length+m.length<=cap
   ·--in place
    rcases O with⟨rfl,hc⟩|⟨k,g,rfl,hg,ht,Y⟩
    ·omega
    ·have L:=Y;unfold qm at L;cases W:ρ.A k g with
     |none=>rw[W] at L;simp only at L;omega
     |some p=>
      obtain⟨b3,c3,x⟩:=p;rw[W] at L;simp only at L;obtain⟨rfl,rfl,aE⟩:=L;rw[hg] at W;obtain⟨t1,t2,t3,aU,⟨cur,aF,t4,t5,aV⟩,t6⟩:=h.tok k _ ht b3 cap x W;have af:∀u∈B,u.oneCell'=true:=jG (r.rP.mono λ_ _ _ h=>iR.p h) s
      have Z:l≠[]:=by rintro rfl;exact absurd t3.1 (by simp)
      have al:x=sz:=by
       cases l with
       |nil=>exact absurd rfl Z|cons y ys=>rw[<-aE y (by simp),C y (by simp)]
      subst al;obtain⟨ρ',R',hG,an,ao,aq,hw⟩:=h.rename N D (tag:=.loc k g) (.inr ⟨k,g,rfl,hg,ht,Y⟩)
      have ah:ρ'.A d ((grown fr d (.loc k g) l []).ea d)=some (b3,cap,x):=by
       have e:(grown fr d (.loc k g) l []).ea d=fr.ea d+1:=by simp[grown,fF]
       rw[e,ao k g rfl,hg];exact W
      have ar:(grown fr d (.loc k g) l []).qS d=some l.length:=by simp[grown,fF]
      obtain⟨F',au,X,aw,aG⟩:=hw.extend ar ah Q E af t4
      have aH:b=b3/\o=0:=by
       have:=f.base Z;injection this with this;injection this with e1 e2;exact⟨e1.symm,e2.symm⟩
      obtain⟨rfl,rfl⟩:=aH
      have U:=src.room S b l.length cap cur aF t4 E (by
       rw[Q,<-w9,t5];exact HO _ E)
      have ax:fl F' ρ' (.slice (.loc d (fr.ea d+1)) (l++m)) (.slice (some ⟨b,0,none⟩) (l.length+m.length) cap):=by
       have hlen:(l++m).length=l.length+m.length:=pJ
       have ay:F'.has b 0 (vs++B):=by
        intro q v V;rcases p4 q vs.length with hq|hq
        ·rw[rf hq] at V;exact au.g.mF _ _ _ (f.has q v V)
        ·rw[vu hq] at V;have:=aw _ v V;rw[I] at hq this;rw[show l.length*x+(q-l.length*x)=0+q by omega] at this;exact this
       have aa:∀y∈l++m,y.cells.length=x:=by
        intro y hy;rcases qW.1 hy with hy|hy
        ·exact C y hy
        ·exact M y hy
       have aI:=fB.slice (F:=F') (G:=ρ'.G) (n:=ρ'.n) (tag:=.eh) (l:=l++m) (b:=b) (o:=0) (base:=some ⟨b,0,none⟩) (cap:=cap) (sz:=x) (vs:=vs++B)
        (by
         rw[Cv,hG,an];have az:=au.g;rw[hG,an] at az
         exact(f.cells.append r).grow az) ay (λ_=>rfl) aa (by
         intro y hy;rw[Cv] at hy;rcases qW.1 hy with hy|hy
         ·exact f.tk y hy
         ·exact s y hy) (by omega) f.AT (.inl rfl)
       rw[<-hlen];refine .cell (.loc aI (by rw[aq];exact hO _) ?_);unfold qm
       have e:ρ'.A d (fr.ea d+1)=some (b,cap,x):=by rw[ao k g rfl,hg];exact W
       rw[e];exact⟨rfl,rfl,aa⟩
      have ab:=aG.put (d:=some d) (λ_ hh=>by cases hh;exact N) ax;refine⟨_,_,_,_,U,hK,ρ',F',R',?_,?_⟩
      ·have e1:({(grown fr d (.loc k g) l [])with qS:=fF (grown fr d (.loc k g) l []).qS d (some (l.length+m.length))}:Fr).put (some d) (.slice (.loc d (fr.ea d+1)) (l++m))=grown fr d (.loc k g) l m:=by
        simp only[grown,Fr.put,Gp]
       have e2:(a.put (some d) (.slice (some ⟨b,0,none⟩) l.length cap)).put (some d) (.slice (some ⟨b,0,none⟩) (l.length+m.length) cap)=a.put (some d) (.slice (some ⟨b,0,none⟩) (l.length+m.length) cap):=by
        simp[Act.put]
       rw[e1,e2] at ab;exact ab
      ·rw[hG];exact(hx.setRow (.inl t1) _).freeze λb' j aJ=>X b' j (by omega)
   ·--a new row
    have aK:base=none->l.length=0/\cap=0:=by
     rintro rfl
     have ai:l=[]:=by
      rcases TV l with h'|⟨_,_,h'⟩
      ·exact h'
      ·have:=f.base (by rw[h'];simp);cases this
     subst ai;refine⟨rfl,?_⟩;rcases O with⟨_,hc⟩|⟨k,g,rfl,hg,ht,Y⟩
     ·simpa using hc
     ·unfold qm at Y;cases W:ρ.A k g with
      |none=>rw[W] at Y;simpa using Y
      |some p=>
       obtain⟨b3,c3,x⟩:=p;rw[W] at Y;cases Y.1
    have aL:∀ad,base=some ad->∀(j:Nat) (v:Value),vs[j]?=some v->w.cell? (ad.add j)=some v:=by
     intro ad aM j v V
     have ai:l≠[]:=by
      rintro rfl;have:vs=[]:=xZ (by rw[I];simp);subst this;simp at V
     have:=f.base ai;rw[aM] at this;injection this with this;subst this;rw[Addr.add_lit];exact h.g.Ce b _ v (f.has j v V)
    obtain⟨c',rest,r1,r2,r0,r3,U⟩:=src.grow S base l.length cap vs I aK aL (by omega) aj;have aN:=h.drew.alloc (.cells (vs++B++rest).toArray e);have aP:w.drew.heap.size=w.heap.size:=rfl
    obtain⟨ρ',R',hG,hw⟩:=aN.Ng (b:=w.heap.size) (us:=vs++B) (c:=c') (sz:=sz) (tag:=tag) (l:=l) (m:=m) N h.p5 (h.lz _ (hO _)) (λj=>h.g.fresh _ j (hO _))
     (heap_alloc_new w.drew _) (by
      intro u hu;simp only[qW] at hu;rcases hu with(hu|hu)|hu
      ·exact jG (f.cells.rP.mono λ_ _ _ h=>iR.p h) f.tk u hu
      ·exact jG (r.rP.mono λ_ _ _ h=>iR.p h) s u hu
      ·exact r0 u hu) (by simpa using r3) (by omega) r1 r2 (by rw[pJ,I,Q,w9]) (by
      intro j v V;have hj:=(oM.1 V).1;simp only[U0];rw[rf hj]
      exact V) (by rw[Cv];exact f.cells.append r) (by
      intro y hy;rw[Cv] at hy;rcases qW.1 hy with hy|hy
      ·exact f.tk y hy
      ·exact s y hy) (by
      intro y hy;rcases qW.1 hy with hy|hy
      ·exact C y hy
      ·exact M y hy)
    refine⟨_,_,_,_,U,hK,ρ',_,R',hw,?_⟩;rw[hG];exact((hx.drew.alloc h.p5 _).freeze λb' j aJ=>th (by have:=h.p5;omega))
 ·obtain⟨rfl,hK⟩:=hK;refine⟨_,_,_,_,src.none rfl _ _ _ f.GG,hK,ρ,F,R,?_,hx⟩;exact h.put (λ_ hh=>by cases hh;exact N) (.p D)
def Gu{t e:TypeId}{sz:Nat}(f:nM P t=some (e,sz))(ty:TypeId){base:Option Addr}{m cap b o:Nat}{news:List Value}(y:0<m->base=some ⟨b,o,none⟩)(A:news.length=m*sz)
  (hn:∀j v,news[j]?=some v->w.cell? ((⟨b,o,none⟩:Addr).add j)=some v) (C:∀u∈news,u.oneCell'=true):J0 P w t t e sz m (.slice base m cap) news ty where
 none D a len k E:=BP w f ty a len k E _ ⟨base,cap,by rw[D]⟩
 room q g c d cur F hg h l:=by
  obtain⟨i,z,hu,hi,J,G,r,H,B⟩:=mB f;subst r;rw[y q];exact ui (P:=P) w t ty e F i hu hi g c d cur hg ⟨b,o,.none⟩ m cap news A hn C h l
 grow q a c d n holds s I x p:=by
  rw[y q];exact AW w f ty a c d n holds s I ⟨b,o,.none⟩ m cap news A hn x p
def G_{ρ:Maps}{F:jH}{R:Nat->mU}(h:WR T n w0.heap.size ρ F R fr H a w)(Q:Ext w0.heap.size G0 F0 n0 w0 ρ.G F H.length w){c:Call}{dst:Option Nat}{ty:TypeId}{K:Fr->cV->Prop}
  (k:lk P T c dst K fr H) (S:∀d,dst=some d->d<n) (r:∀x∈c.args.toList,ic x=true):∃v w' fr' H',(Builtin.append_ c.argTypes ty (c.args.map a.eval)).run P w=.ok v w'/\K fr' H'/\SR T n G0 F0 n0 w0 fr' H' (a.put dst v) w':=by
 unfold lk at k
 split at k
 ·rename_i d s x t U i u;have C:=S d rfl;have V:c.argTypes=#[t,U]:=B4.1 (by rw[u]);have W:c.args.map a.eval=#[a.eval s,a.eval x]:=B4.1 (by rw[UE,i];rfl);rw[V,W];have y:=ft h.env h.gQ s (r s (by rw[i];simp));have z:=ft h.env h.gQ x (r x (by rw[i];simp))
  split at k
  ·rename_i e sz tag l M m A hs D;obtain⟨rfl,E,I,B,k⟩:=k;rw[hs] at y;rw[D] at z;obtain⟨J,N,O,o2,X,Y,L,f,_,_⟩:=nu z;have q:=rJ I f.sz;rw[L]
   exact A3 h Q A y E (Gu A ty (b:=O) (o:=o2) (λZ=>f.base (S3.1 Z)) (by rw[<-f.cells.length,pd q]) (λj v hv=>by
    rw[Addr.add_lit]
    exact h.g.Ce O _ v (f.has j v hv)) (jG (f.cells.rP.mono λ_ _ _ h=>iR.p h) f.tk)) f.cells f.tk q B C k
  ·exact k.elim
 ·exact k.elim
def lH(s:ByteArray):List AV:=s.data.toList.map λb=>AV.sc (.int .u8 (b.toNat:Int))
def zK(P:Program)(T:dA)(c:Call)(dst:Option Nat)(K:Fr->cV->Prop)(fr:Fr)(H:cV):Prop:=
 match dst,c.args.toList,c.argTypes.toList with
 |some d,[s,x],[t,a]=>
  match nM P t,P.underlying a,ev T fr s,ev T fr x with
  |some (_,sz),some .string,.slice tag l,.sc (.string y)=>
   sz=1/\kg 1 l=true/\l.length+y.size<=kM/\(if mj fr tag l=true then K (grown fr d tag l (lH y)) H else lH y=[]/\K (fr.put (some d) (.slice .eh l)) H)
  |_,_,_,_=>False
 |_,_,_=>False
def Ke{t u e:TypeId}(j:nM P t=some (e,1))(d:P.underlying u=some .string)(ty:TypeId)(s:ByteArray):J0 P w t u e 1 s.size (.string s) (Lib.strCells s) ty where
 none q base len cap C:=by
  obtain⟨i,z,hu,hi,r,m,k,n,l⟩:=mB j;have v:=Lib.run_firstCells_string (P:=P) w i.size s;have hn:Lib.strCells s=[]:=xZ (by rw[Lib.strCells_length];exact q);rw[q,hn] at v;cases base with
  |none=>simp[Builtin.append_,run_underlying hu,run_underlying d,sizeOf,typeInfo,hi,Builtin.lenOf,q,C,v]|some K=>simp[Builtin.append_,run_underlying hu,run_underlying d,sizeOf,typeInfo,hi,Builtin.lenOf,q,C,v,storeCells]
 room E g a c cur F hg o x:=by
  obtain⟨i,z,hu,hi,r,m,k,n,l⟩:=mB j;have v:=Lib.run_firstCells_string (P:=P) w 1 s;have y:=run_storeCells_at P g (a*1) F (Lib.strCells s) 0 cur w hg (by simpa using x) (Lib.strCells_oneCell s);simp only[BO,Nat.mul_one] at y;simp[Builtin.append_,run_underlying hu,run_underlying d,sizeOf,typeInfo,hi,k,Builtin.lenOf,o,v,Addr.add_lit,y]
 grow E base a c f holds G H A B:=by
  obtain⟨i,z,hu,hi,r,m,k,n,l⟩:=mB j;have p:a+s.size<=1099511627776:=B
  have h:(a+s.size)*i.bytes<=140737488355328:=by
   have:=W9 p n;omega
  have AT:a+s.size<=maxLen:=by simp only[maxLen];omega
  refine⟨grownCap w (a+s.size) c e,(Builtin.zeroCells z.cells (grownCap w (a+s.size) c e-(a+s.size))).toList,grownCap_ge w (a+s.size) c e,grownCap_le_maxLen w (a+s.size) c e AT,tf (I5 j hi r) (by omega) _,?_,?_⟩
  ·have:=grownCap_ge w (a+s.size) c e;simp only[pJ,Xm,size_zeroCells,m,holds,Lib.strCells_length];omega
  ·have I:(f++Lib.strCells s++(Builtin.zeroCells z.cells (grownCap w (a+s.size) c e-(a+s.size))).toList).toArray=f.toArray++(Lib.strCells s).toArray++Builtin.zeroCells z.cells (grownCap w (a+s.size) c e-(a+s.size)):=by
    apply B4.1;simp
   rw[I];cases base with
   |some b=>exact Lib.run_append_grow_string w t u ty e i z hu d hi r b a c f (by rw[k];exact holds) (H b rfl) s A (by omega) (growslice_fits A h)|none=>
    obtain⟨rfl,rfl⟩:=G rfl;have q:f=[]:=xZ (by simpa using holds);subst q;have D:=run_append_nil_string (P:=P) w t u ty e i z hu d hi r s (by omega) (by omega) (by rw[sy] at h;omega)
    have J:(s.data.map λb=>Value.int .u8 b.toNat)=(Lib.strCells s).toArray:=by
     apply Array.ext';simp[Lib.strCells]
    rw[J] at D;simpa using D
def xE(s:ByteArray):(lH s).flatMap AV.cells=(Lib.strCells s).map AV.sc:=by
 unfold lH Lib.strCells
 induction s.data.toList with
 |nil=>rfl|cons b l a=>simp only[mi,xY,a];rfl
def rF{F:jH}{G:Nat->Nat}{k:Nat}:∀(L:List Value),(∀v∈L,xb v=true)->fC F G k (L.map AV.sc) L
 |[],_=>.nil|v::L,h=>.cons (.sc (h v (by simp))) (rF L λx a=>h x (by simp[a]))
def Fv{ρ:Maps}{F:jH}{R:Nat->mU}(h:WR T n w0.heap.size ρ F R fr H a w)(B:Ext w0.heap.size G0 F0 n0 w0 ρ.G F H.length w){c:Call}{dst:Option Nat}{ty:TypeId}{K:Fr->cV->Prop}
  (g:zK P T c dst K fr H) (C:∀d,dst=some d->d<n) (i:∀x∈c.args.toList,ic x=true):∃v w' fr' H',(Builtin.append_ c.argTypes ty (c.args.map a.eval)).run P w=.ok v w'/\K fr' H'/\SR T n G0 F0 n0 w0 fr' H' (a.put dst v) w':=by
 unfold zK at g
 split at g
 ·rename_i d s x t D f j;have u:=C d rfl;have E:c.argTypes=#[t,D]:=B4.1 (by rw[j]);have I:c.args.map a.eval=#[a.eval s,a.eval x]:=B4.1 (by rw[UE,f];rfl);rw[E,I];have k:=ft h.env h.gQ s (i s (by rw[f];simp));have m:=ft h.env h.gQ x (i x (by rw[f];simp))
  split at g
  ·rename_i e sz tag l y o p hs z;obtain⟨rfl,A,q,g⟩:=g;rw[hs] at k;rw[z] at m;rw[eI m]
   have hlen:(lH y).length=y.size:=by simp[lH]
   have J:fC F ρ.G ρ.n ((lH y).flatMap AV.cells) (Lib.strCells y):=by
    rw[xE];refine rF _ λv L=>?_;obtain⟨b,_,rfl⟩:=mO.1 L;rfl
   have M:∀c∈(lH y).flatMap AV.cells,c.fA=true:=λc r=>by
    rw[xE] at r;obtain⟨v,_,rfl⟩:=mO.1 r;rfl
   have c3:∀c∈lH y,c.cells.length=1:=λc r=>by
    obtain⟨b,_,rfl⟩:=mO.1 r;rfl
   exact A3 h B o k A (by rw[hlen];exact Ke o p ty y) J M c3 (by rw[hlen];exact q) u g
  ·exact g.elim
 ·exact g.elim
end
end Go.ky
namespace Go.ky
open Go
def jM(P:Program)(t:TypeId):Option (List AV):=
 match zeroOf P t with
 |some z=>if wP z=true/\ek (ofValue z)=true then some (ofValue z).cells else none|none=>none
def Fy{P:Program}{t:TypeId}{cs:List AV}(h:jM P t=some cs):∃z,zeroOf P t=some z/\wP z=true/\ek (ofValue z)=true/\cs=(ofValue z).cells:=by
 unfold jM at h
 split at h
 ·rename_i z b
  split at h
  ·rename_i a;injection h with h;exact⟨z,b,a.1,a.2,h.symm⟩
  ·cases h
 ·cases h
def vp(fr:Fr)(d:Nat)(cells:List AV)(len cap:Nat):Fr:=
 {fr with env:=fF fr.env d (.wG d (fr.gen d+1) len cap),box:=fF fr.box d (some cells),gen:=fF fr.gen d (fr.gen d+1)}
def Dd(n:Nat):List AV:=List.replicate n .undef
def zM(P:Program)(T:dA)(c:Call)(dst:Option Nat)(K:Fr->cV->Prop)(fr:Fr)(H:cV):Prop:=
 match dst,c.args.toList,c.argTypes.toList with
 |some d,[s,x],[t,f]=>
  match nM P t,ev T fr x with
  |some (e,sz),.slice _ m=>
   f=t/\kg sz m=true/\(jM P e).isSome=true/\0<m.length/\match ev T fr s with
   |.slice .full l=>kg sz l=true/\l.length+m.length<=kM/\∀cap,l.length+m.length<=cap->K (vp fr d (l.flatMap AV.cells++m.flatMap AV.cells++Dd ((cap-(l.length+m.length))*sz)) (l.length+m.length) cap) H|.wG b g len cap=>g=fr.gen b/\len+m.length<=kM/\match fr.box b with
    |some cs=>cs.length=cap*sz/\(len+m.length<=cap->K {fr with env:=fF fr.env d (.wG b g (len+m.length) cap),box:=fF fr.box b (some (setCells cs (len*sz) (m.flatMap AV.cells)))} H)/\(∀a,cap<len+m.length->len+m.length<=a->K (vp fr d (cs.take (len*sz)++m.flatMap AV.cells++Dd ((a-(len+m.length))*sz)) (len+m.length) a) H)|none=>False
   |_=>False
  |_,_=>False
 |_,_,_=>False
section
variable{P:Program} {T:dA} {n:Nat} {G0:Nat->Nat} {F0:jH} {n0:Nat} {w0:World} {fr:Fr} {H:cV} {a:Act} {w:World}
def Iu{e:TypeId}(h:(jM P e).isSome=true){i:TypeInfo}{z:Value}(hi:P.info? e=some i)(c:i.zero=some z):∀u∈z.cells.toList,u.oneCell'=true:=by
 cases b:jM P e with
 |none=>rw[b] at h;cases h
 |some cs=>
  obtain⟨d,a,f,g,_⟩:=Fy b
  have:d=z:=by
   unfold zeroOf at a;rw[hi] at a;simp only[Oy,c] at a;exact(gk a).symm
  subst this;exact(xu f (λvs j=>by subst j;simp[ofValue,ek] at g)).2
def uz(w:World){t e:TypeId}{sz:Nat}(o:nM P t=some (e,sz))(p:(jM P e).isSome=true)(ty:TypeId)(base:Option Addr)(a d:Nat)(f:List Value)(holds:f.length=a*sz)
  (C:base=none->a=0/\d=0) (D:∀k,base=some k->∀j v,f[j]?=some v->w.cell? (k.add j)=some v)
  (k:Addr) (m c:Nat) (news:List Value) (A:news.length=m*sz) (hn:∀j v,news[j]?=some v->w.cell? (k.add j)=some v) (l:d<a+m) (n:a+m<=kM):∃cap rest,a+m<=cap/\cap<=maxLen/\rest.length=(cap-(a+m))*sz/\(∀u∈rest,u.oneCell'=true)/\(Builtin.append_ #[t,t] ty #[.slice base a d,.slice (some k) m c]).run P w=.ok (.slice (some ⟨w.heap.size,0,none⟩) (a+m) cap) (w.drew.alloc (.cells (f++news++rest).toArray e)):=by
 obtain⟨i,z,hu,hi,q,r,s,x,B⟩:=mB o;subst s;have h:a+m<=1099511627776:=n
 have g:(a+m)*i.bytes<=140737488355328:=by
  have:=W9 h x;omega
 have AT:a+m<=maxLen:=by simp only[maxLen];omega
 have y:=grownCap_ge w (a+m) d e;have hle:=grownCap_le_maxLen w (a+m) d e AT;refine⟨grownCap w (a+m) d e,(Builtin.zeroCells z.cells (grownCap w (a+m) d e-(a+m))).toList,y,hle,?_,tf (Iu p hi q) (by omega) _,?_⟩
 ·simp only[Xm,size_zeroCells,r]
 ·have E:(f++news++(Builtin.zeroCells z.cells (grownCap w (a+m) d e-(a+m))).toList).toArray=f.toArray++news.toArray++Builtin.zeroCells z.cells (grownCap w (a+m) d e-(a+m)):=by
   apply B4.1;simp
  rw[E];cases base with
  |some b=>
   exact run_append_grow w t ty e i z hu hi q b a d f holds (D b rfl) k m c news A hn l (by omega) (growslice_fits l g)
  |none=>
   obtain⟨rfl,rfl⟩:=C rfl;have:f=[]:=xZ (by simpa using holds);subst this;simp only[sy] at l g h|-;have:=run_append_nil (P:=P) w t ty e i z hu hi q k m c news A hn (by omega) (by omega) (by omega);simpa using this
def CP{F:jH}{ρ:Maps}:∀{rest:List Value} {k:Nat},rest.length=k->(∀u∈rest,u.oneCell'=true)->gi (iR F ρ) (Dd k) rest
 |[],k,h,_=>by cases h;exact .nil
 |u::rest,k,h,a=>by
  cases h;show gi _ (List.replicate (rest.length+1) AV.undef) _;rw[WQ];exact .cons (.p (.undef (a u (by simp)))) (CP rfl λv b=>a v (by simp[b]))
def D2(k:Nat):∀c∈Dd k,c.fA=true:=by
 intro c a;rw[List.eq_of_mem_replicate a];rfl
def WR.Nq{ρ:Maps}{F:jH}{R:Nat->mU}(h:WR T n w0.heap.size ρ F R fr H a w)(p:Ext w0.heap.size G0 F0 n0 w0 ρ.G F H.length w){d len cap:Nat}(k:d<n){cells:List AV}{vs:Array Value}(ty:TypeId)
  (l:gi (iR F ρ) cells vs.toList) (f:∀c∈cells,c.fA=true) (hlen:len<=cap) (GG:cap<=maxLen):SR T n G0 F0 n0 w0 (vp fr d cells len cap) H (a.put (some d) (.slice (some ⟨w.heap.size,0,none⟩) len cap)) (w.drew.alloc (.cells vs ty)):=by
 have q:=h.drew.alloc (.cells vs ty);have i:(w.drew.alloc (.cells vs ty)).heap[w.drew.heap.size]?=some (.cells vs ty (0,0)):=heap_alloc_new w.drew _;have r:w.drew.heap.size=w.heap.size:=rfl;have e:R w.drew.heap.size=.free:=h.lz _ (hO _);have hF:∀j,F w.drew.heap.size j=none:=λj=>h.g.fresh _ j (hO _);obtain⟨ρ',s,hG,hw⟩:=q.RJ h.p5 e hF i l f k;have t:=hw.box d cells (by simp[fF])
 have u:ρ'.L d (fr.gen d+1)=w.heap.size:=by
  have he:=hw.env d
  have m:({fr with env:=fF fr.env d (.dc d (fr.gen d+1) 0),box:=fF fr.box d (some cells),gen:=fF fr.gen d (fr.gen d+1)}:Fr).env d=.dc d (fr.gen d+1) 0:=by simp[fF]
  rw[m,HV a (some d) _ d (by intro y he;injection he with he;subst he;rw[h.size];exact k),cG rfl] at he;have:=(tW he).1;injection this with this;injection this with this;injection this with this;exact this.symm
 have o:fr.gen d+1<=ρ'.lg d:=by
  rw[hw.lg d];simp[fF]
 have iF:=hw.put (d:=some d) (by intro y he;injection he with he;subst he;exact k) (x:=.wG d (fr.gen d+1) len cap) (v:=.slice (some ⟨w.heap.size,0,none⟩) len cap) (by
  have:=iR.wG (F:=F) (ρ:=ρ') (b:=d) (g:=fr.gen d+1) o hlen GG;rw[u] at this
  exact .cell this)
 refine⟨ρ',F,s,?_,?_⟩
 ·have m:(({fr with env:=fF fr.env d (.dc d (fr.gen d+1) 0),box:=fF fr.box d (some cells),gen:=fF fr.gen d (fr.gen d+1)}:Fr).put (some d) (.wG d (fr.gen d+1) len cap))=vp fr d cells len cap:=by
   simp only[vp,Fr.put,Gp]
  have z:(a.put (some d) (.pointer (some ⟨w.heap.size,0,none⟩))).put (some d) (.slice (some ⟨w.heap.size,0,none⟩) len cap)=a.put (some d) (.slice (some ⟨w.heap.size,0,none⟩) len cap):=by
   simp[Act.put]
  rw[m,z] at iF;exact iF
 ·rw[hG];exact(p.drew).alloc h.p5 _
def E1{ρ:Maps}{F:jH}{R:Nat->mU}(h:WR T n w0.heap.size ρ F R fr H a w)(hx:Ext w0.heap.size G0 F0 n0 w0 ρ.G F H.length w){c:Call}{dst:Option Nat}{ty:TypeId}{K:Fr->cV->Prop}
  (y:zM P T c dst K fr H) (hd:∀d,dst=some d->d<n) (ak:∀x∈c.args.toList,ic x=true):∃v w' fr' H',(Builtin.append_ c.argTypes ty (c.args.map a.eval)).run P w=.ok v w'/\K fr' H'/\SR T n G0 F0 n0 w0 fr' H' (a.put dst v) w':=by
 unfold zM at y
 split at y
 ·rename_i d s x t t' A al;have V:=hd d rfl;have e1:c.argTypes=#[t,t']:=B4.1 (by rw[al]);have e2:c.args.map a.eval=#[a.eval s,a.eval x]:=B4.1 (by rw[UE,A];rfl);rw[e1,e2];have Q:=ft h.env h.gQ s (ak s (by rw[A];simp));have an:=ft h.env h.gQ x (ak x (by rw[A];simp))
  split at y
  ·rename_i e sz aN m W az;obtain⟨rfl,aA,ao,X,y⟩:=y;rw[az] at an;obtain⟨aB,D,b2,o2,aR,k,aC,f,_,_⟩:=nu an;have hm:m≠[]:=S3.1 X;have aq:=rJ aA f.sz;have S:=f.base hm
   have B:∀j v,k[j]?=some v->w.cell? ((⟨b2,o2,none⟩:Addr).add j)=some v:=by
    intro j v O;rw[Addr.add_lit];exact h.g.Ce b2 _ v (f.has j v O)
   have E:k.length=m.length*sz:=by rw[<-f.cells.length,pd aq]
   have I:gi (iR F ρ) (m.flatMap AV.cells) k:=f.cells.rP.mono λ_ _ _ h=>.p h;have Y:∀u∈k,u.oneCell'=true:=jG I f.tk;obtain⟨i,z,hu,hi,hz,aS,Z,aT,aO⟩:=mB W;rw[aC,S]
   split at y
   ·--a new row
    rename_i l hs;obtain⟨aD,J,y⟩:=y;rw[hs] at Q;obtain⟨base,cap,b,o,aU,vs,aa,C,ab,_⟩:=nu Q;rw[aa];have GG:cap=l.length:=ab rfl;have ar:=rJ aD C.sz
    have U:vs.length=l.length*sz:=by rw[<-C.cells.length,pd ar]
    have aE:base=none->l.length=0/\cap=0:=by
     rintro rfl
     have aF:l=[]:=by
      rcases TV l with h'|⟨_,_,h'⟩
      ·exact h'
      ·have:=C.base (by rw[h'];simp);cases this
     subst aF;exact⟨rfl,GG⟩
    have ho:∀ad,base=some ad->∀j v,vs[j]?=some v->w.cell? (ad.add j)=some v:=by
     intro ad ae j v O
     have au:l≠[]:=by
      rintro rfl;have:vs=[]:=xZ (by simpa using U);rw[this] at O;simp at O
     have:=C.base au;rw[ae] at this;obtain rfl:=gk this;rw[Addr.add_lit];exact h.g.Ce b _ v (C.has j v O)
    obtain⟨M,rest,N,af,ah,ai,q⟩:=uz w W ao ty base l.length cap vs U aE ho ⟨b2,o2,none⟩ m.length D k E B (by omega) J;refine⟨_,_,_,_,q,y M N,h.Nq hx V e ?_ ?_ N af⟩
    ·simp only;exact((C.cells.rP.mono λ_ _ _ h=>iR.p h).append I).append (CP ah ai)
    ·intro c hc;simp only[qW] at hc;rcases hc with(hc|hc)|hc
     ·exact C.tk c hc
     ·exact f.tk c hc
     ·exact D2 _ c hc
   ·--a row of aV aw own
    rename_i b g len cap hs;obtain⟨hg,J,y⟩:=y;rw[hs] at Q;obtain⟨aa,aG,aH,aI⟩:=yX Q;rw[aa]
    split at y
    ·rename_i cs hb;obtain⟨aJ,aK,aL⟩:=y;obtain⟨b1,aM,b3,cur,cty,b4,b5⟩:=h.box b cs hb;rw[<-hg] at b1 aM b4
     have aP:cur.size=cap*sz:=by rw[<-aJ];simpa using b5.length.symm
     have hle:len*sz<=cap*sz:=HO _ aH
     by_cases r:len+m.length<=cap
     ·have aQ:len*sz+m.length*sz<=cap*sz:=by rw[<-w9];exact HO _ r
      have q:=ui (P:=P) w t' ty e cty i hu hi (ρ.L b g) len cap cur b4 ⟨b2,o2,none⟩ m.length D k (by rw[Z];exact E) B Y r (by rw[Z];omega);rw[Z] at q;have fu:=b5.setCells I (len*sz);have ax:(m.flatMap AV.cells).length=k.length:=I.length
      have aj:∀c∈setCells cs (len*sz) (m.flatMap AV.cells),c.fA=true:=by
       intro c hc;simp only[setCells,qW] at hc;rcases hc with(hm|hm)|hm
       ·exact b3 c (Ac hm)
       ·exact f.tk c hm
       ·exact b3 c (Ek hm)
      have ay:=h.Pl hb (vs':=(cur.toList.take (len*sz)++k++cur.toList.drop (len*sz+k.length)).toArray) (by rw[<-ax];simpa[ax] using fu) aj;rw[<-hg] at ay;have iF:=ay.put (d:=some d) (by intro d' he;injection he with he;subst he;exact V) (x:=.wG b g (len+m.length) cap) (v:=.slice (some ⟨ρ.L b g,0,none⟩) (len+m.length) cap) (.cell (.wG aG r aI));refine⟨_,_,_,_,q,aK r,ρ,F,R,iF,hx.setRow (.inl b1) _⟩
     ·have ho:∀ad,some (⟨ρ.L b g,0,none⟩:Addr)=some ad->∀j v,(cur.toList.take (len*sz))[j]?=some v->w.cell? (ad.add j)=some v:=by
       intro ad ae j v O;obtain rfl:=gk ae;rw[Addr.add_lit,sy,cell_of_row w _ _ cur cty (0,0) b4];rw[He] at O
       split at O
       ·simpa using O
       ·cases O
      obtain⟨M,rest,N,af,ah,ai,q⟩:=uz w W ao ty (some ⟨ρ.L b g,0,none⟩) len cap (cur.toList.take (len*sz)) (by simp;omega) (by intro h;cases h) ho ⟨b2,o2,none⟩ m.length D k E B (by omega) J;refine⟨_,_,_,_,q,aL M (by omega) N,h.Nq hx V e ?_ ?_ N af⟩
      ·simp only;exact((b5.take _).append I).append (CP ah ai)
      ·intro c hc;simp only[qW] at hc;rcases hc with(hc|hc)|hc
       ·exact b3 c (Ac hc)
       ·exact f.tk c hc
       ·exact D2 _ c hc
    ·exact y.elim
   ·exact y.elim
  ·exact y.elim
 ·exact y.elim
end
end Go.ky
namespace Go.ky
open Go Go.MapKept
def E9:TypeDesc->Value->Bool
 |.bool,.bool _=>true|.int k,.int k' _=>k'==k|.string,.string _=>true|_,_=>false
def Pq:Value->Value->Bool
 |.bool a,.bool b=>a==b|.int _ a,.int _ b=>a==b|.string a,.string b=>a==b|_,_=>false
def rO{d:TypeDesc}{v:Value}(h:E9 d v=true):IsKey d v:=by
 unfold E9 at h
 split at h<;>simp_all [IsKey]
def AI{d:TypeDesc}{a b:Value}(c:IsKey d a)(e:IsKey d b):Pq a b=true↔a=b:=by
 cases d<;>cases a<;>cases b<;>simp_all [IsKey,Pq,bytes_beq]
def mapIdx(ks:List Value)(k:Value):Option Nat:=ks.findIdx? (λx=>Pq x k)
def vG{d:TypeDesc}{k:Value}(f:IsKey d k):∀{ks:List Value} {j:Nat},(∀x∈ks,IsKey d x)->ks.Nodup->ks[j]?=some k->mapIdx ks k=some j
 |[],j,_,_,h=>by simp at h
 |x::ks,j,a,hn,h=>by
  have b:=a x (by simp);unfold mapIdx;rw[R6];cases j with
  |zero=>
   simp at h;subst h;rw[cG ((AI b b).2 rfl)]
  |succ j=>
   simp at h
   have c:x≠k:=by
    rintro rfl;exact(SS.1 hn).1 (DP h)
   rw[cB (λe=>c ((AI b f).1 e))];have:=vG f (λy hy=>a y (by simp[hy])) (SS.1 hn).2 h;unfold mapIdx at this;rw[this];rfl
def wJ{d:TypeDesc}{k:Value}(b:IsKey d k):∀{ks:List Value},(∀x∈ks,IsKey d x)->(∀x∈ks,x≠k)->mapIdx ks k=none
 |[],_,_=>rfl|x::ks,a,h=>by
  unfold mapIdx;rw[R6,cB (λe=>h x (by simp) ((AI (a x (by simp)) b).1 e))];have:=wJ b (ks:=ks) (λy hy=>a y (by simp[hy])) (λy hy=>h y (by simp[hy]));unfold mapIdx at this;rw[this];rfl
def Iy(P:Program)(t:TypeId):Option AV:=
 match zeroOf P t with
 |some z=>if wP z=true/\ek (ofValue z)=true then some (ofValue z).norm else none|none=>none
def re(P:Program)(H:cV)(t:TypeId)(x i:AV)(ok:Bool):Option AV:=
 match P.underlying t,x,i with
 |some (.map kt e),.oa o,.sc k=>
  match P.underlying kt,H[o]?,Iy P e with
  |some d,some [.sC ks xs],some z=>
   if E9 d k=true/\ks.all (E9 d)=true then
    match mapIdx ks k with
    |some j=>(xs[j]?).map λv=>if ok then .tuple [v,.sc (.bool true)] else v|none=>some (if ok then .tuple [z,.sc (.bool false)] else z)
   else none
  |_,_,_=>none
 |_,_,_=>none
def Gj(ks:List Value)(xs:List AV)(k:Value)(v:AV):AV:=
 match mapIdx ks k with
 |some j=>.sC ks (xs.set j v)|none=>.sC (ks++[k]) (xs++[v])
def sO(P:Program)(t:TypeId)(x i v:AV)(K:Fr->cV->Prop)(fr:Fr)(H:cV):Prop:=
 match P.underlying t,x,i with
 |some (.map kt _),.oa o,.sc k=>
  match P.underlying kt,H[o]?with
  |some d,some [.sC ks xs]=>E9 d k=true/\ks.all (E9 d)=true/\K fr (H.set o [Gj ks xs k v.norm])|_,_=>False
 |_,_,_=>False
def Di(dst:Option Nat)(K:Fr->cV->Prop)(fr:Fr)(H:cV):Prop:=K (fr.put dst (.oa H.length)) (H++[[.sC [] []]])
def GQ(P:Program)(t:TypeId)(x:AV)(dst:Option Nat)(K:Fr->cV->Prop)(fr:Fr)(H:cV):Prop:=
 match P.underlying t,x with
 |some (.map _ _),.oa o=>
  match H[o]?with
  |some [.sC ks _]=>K (fr.put dst (.ei H.length 0)) (H++[[.u' o ks.length []]])|_=>False
 |_,_=>False
def KS(x:AV)(dst:Option Nat)(K:Fr->cV->Prop)(fr:Fr)(H:cV):Prop:=
 match x with
 |.ei i 0=>
  match H[i]?with
  |some [.u' o since seen]=>
   match H[o]?with
   |some [.sC ks xs]=>ks.length=since/\ks.all xb=true/\((∀j,j<ks.length->j∈seen)->K (fr.put dst (.tuple [.sc (.bool false)])) H)/\∀j k v,ks[j]?=some k->xs[j]?=some v->j∉seen->K (fr.put dst (.tuple [.sc (.bool true),.sc k,v])) (H.set i [.u' o since (seen++[j])])|_=>False
  |_=>False
 |_=>False
def Hl(x:AV)(H:cV):Option AV:=
 match x with
 |.ei i 0=>
  match H[i]?with
  |some [.u' o since seen]=>
   match H[o]?,seen.getLast? with
   |some [.sC ks xs],some j=>
    match ks[j]?,xs[j]?with
    |some k,some v=>if ks.length=since/\xb k=true then some (.tuple [.sc k,v])else none|_,_=>none
   |_,_=>none
  |_=>none
 |_=>none
def j4.yP{F:jH}{G:Nat->Nat}{n:Nat}{ks xs b}(h:j4 F G n [.sC ks xs] b):∃es clock,b=.map es clock/\es.toList.map (·.key)=ks/\gi (fB F G n) xs (es.toList.map (·.val))/\es.toList.map (·.born)=List.range ks.length/\clock=ks.length/\ks.Nodup:=by
 cases h with
 |cells g c a=>have:=a (.sC ks xs) (by simp);simp[AV.fA] at this
 |map c a d e f=>exact⟨_,_,rfl,c,a,d,e,f⟩
def j4.IG{F:jH}{G:Nat->Nat}{n:Nat}{o since seen a}(h:j4 F G n [.u' o since seen] a):a=.mapIter (some (G o)) since seen.toArray since/\o<n:=by
 cases h with
 |cells c d b=>have:=b (.u' o since seen) (by simp);simp[AV.fA] at this
 |iter h=>exact⟨rfl,h⟩
section
variable{P:Program} {T:dA} {n B0:Nat} {ρ:Maps} {F:jH} {R:Nat->mU} {fr:Fr} {H:cV} {a:Act} {w:World}
def z7{o:Nat}{v:Value}(h:fl F ρ (.oa o) v):v=.map (some (ρ.G o))/\o<ρ.n:=by
 cases h with
 |cell h=>cases h with
  |p h=>cases h with|oa h=>exact⟨rfl,h⟩
def Pe(w:World){t:TypeId}{z:AV}(h:Iy P t=some z):∃v,(zeroValue t).run P w=.ok v w/\fB F ρ.G ρ.n z v:=by
 unfold Iy at h
 split at h
 ·rename_i z0 a
  split at h
  ·rename_i b;injection h with h;subst h;refine⟨z0,?_,(fl.p (zb _ _ _ _ b.1)).norm⟩;unfold zeroOf at a;cases hi:P.info? t with
   |none=>rw[hi] at a;cases a
   |some i=>
    rw[hi] at a;simp at a;simp[zeroValue,typeInfo,hi,a]
  ·cases h
 ·cases h
def K7{d:TypeDesc}{ks:List Value}{es:Array MapEntry}(h:es.toList.map (·.key)=ks)(a:ks.all (E9 d)=true):∀x∈es.toList,IsKey d x.key:=by
 intro x b;refine rO (jr.1 a _ ?_);rw[<-h];exact mO.2 ⟨x,b,rfl⟩
def Cp{ks:List Value}{es:Array MapEntry}{j:Nat}{e:MapEntry}(h:es.toList.map (·.key)=ks)(a:es.toList[j]?=some e):ks[j]?=some e.key:=by
 rw[<-h,uZ,a];rfl
def HX(h:WR T n B0 ρ F R fr H a w){t:TypeId}{x i r:AV}{ok:Bool}{M N:Value}(c:re P H t x i ok=some r)(E:fl F ρ x M)(hi:fl F ρ i N):∃v,(Instr.lookup t M N ok).run P w=.ok v w/\fl F ρ r v:=by
 unfold re at c
 split at c
 ·rename_i kt e o k hu
  split at c
  ·rename_i d ks xs z C S U
   split at c
   ·rename_i G;obtain⟨rfl,_⟩:=z7 E;obtain rfl:=eI hi;obtain⟨Y,O,V⟩:=h.g.ka o _ S;obtain⟨es,clock,rfl,I,Q,Z,e4,W⟩:=V.yP;rw[<-h.hn] at Q;have b:=rO G.1;have m:=K7 I G.2;have q:∀y∈ks,IsKey d y:=λy hy=>rO (jr.1 G.2 _ hy);obtain⟨J,K,s⟩:=Pe (F:=F) (ρ:=ρ) w U;rcases findNow_spec b es.toList 0 m with⟨f,l⟩|⟨j,D,f,l,L⟩
    ·rw[wJ b q (by
      intro y hy;rw[<-I] at hy;obtain⟨x,E,rfl⟩:=mO.1 hy
      exact l x E)] at c
     simp only[u6] at c;subst c;refine⟨if ok then .tuple #[J,.bool false] else J,?_,?_⟩
     ·cases ok<;>simp[Instr.lookup,run_underlying hu,MapKept.run_getObj_map O,run_checkKey C b,run_findKey C f,K,Result.andThen]
     ·cases ok
      ·exact .p s
      ·exact .p (.tuple (vs:=[J,.bool false]) (.cons s (.cons (.sc rfl) .nil)))
    ·have u:=Cp I l;rw[L] at u;rw[vG b q W u] at c;simp only[Qw] at c;obtain⟨y,hy,rfl⟩:=c;obtain⟨X,A,B⟩:=Q.get hy
     have:X=D.val:=by
      rw[uZ,l] at A;simpa using A.symm
     subst this;simp only[sy] at f;refine⟨if ok then .tuple #[D.val,.bool true] else D.val,?_,?_⟩
     ·cases ok<;>simp[Instr.lookup,run_underlying hu,MapKept.run_getObj_map O,run_checkKey C b,run_findKey C f,Result.andThen]
     ·cases ok
      ·exact .p B
      ·exact .p (.tuple (vs:=[D.val,.bool true]) (.cons B (.cons (.sc rfl) .nil)))
   ·cases c
  ·cases c
 ·cases c
def gi.aab{α β:Type}{R:α->β->Prop}{as:List α}{bs:List β}(h:gi R as bs){a:α}{b:β}(c:R a b)(j:Nat):gi R (as.set j a) (bs.set j b):=by
 induction h generalizing j with
 |nil=>simp;exact .nil|cons d e f=>cases j with
  |zero=>exact .cons c e|succ j=>exact .cons d (f j)
def yh(f:MapEntry->MapEntry){α:Type}(g:MapEntry->α)(es:Array MapEntry)(j:Nat){e:MapEntry}(d:es.toList[j]?=some e):(es.modify j f).toList.map g=(es.toList.map g).set j (g (f e)):=by
 apply KA;intro i;simp only[uZ,Xf,Array.getElem?_modify,Oi,BK,Xm]
 by_cases a:j=i
 ·subst a
  have b:es[j]?=some e:=by simpa using d
  obtain⟨c,he⟩:=J_.1 b;simp[b,c,he]
 ·simp[a]
def HQ{α:Type}{l:List α}{j:Nat}{x:α}(h:l[j]?=some x):l.set j x=l:=by
 apply KA;intro i;rw[Oi]
 by_cases a:j=i
 ·subst a;obtain⟨b,c⟩:=oM.1 h;simp[b,c]
 ·simp[a]
def zA{G0:Nat->Nat}{F0:jH}{n0:Nat}{w0:World}(h:WR T n w0.heap.size ρ F R fr H a w)(A:Ext w0.heap.size G0 F0 n0 w0 ρ.G F H.length w){t:TypeId}{x i v:AV}{Y u z:Value}{K:Fr->cV->Prop}
  (k:sO P t x i v K fr H) (M:fl F ρ x Y) (N:fl F ρ i u) (B:fl F ρ v z):∃fr' H' w',(Instr.mapUpdate t Y u z).run P w=.ok () w'/\K fr' H'/\SR T n G0 F0 n0 w0 fr' H' a w':=by
 unfold sO at k
 split at k
 ·rename_i kt e o kk hu
  split at k
  ·rename_i d ks xs L O;obtain⟨Q,C,k⟩:=k;obtain⟨rfl,_⟩:=z7 M;obtain rfl:=eI N;obtain⟨ob,D,h2⟩:=h.g.ka o _ O;obtain⟨es,clock,rfl,p,S,Z,U,V⟩:=h2.yP;have c:=rO Q;have q:=K7 p C;have E:∀y∈ks,IsKey d y:=λy hy=>rO (jr.1 C _ hy)
   have hlen:es.toList.length=ks.length:=by rw[<-p];simp
   rw[<-h.hn] at S
   have fin:∀(l:Obj) (r:List AV),j4 F ρ.G ρ.n r l->K fr (H.set o r)->(Instr.mapUpdate t (.map (some (ρ.G o))) u z).run P w=.ok () {w with heap:=w.heap.setIfInBounds (ρ.G o) l}->∃fr' H' w',(Instr.mapUpdate t (.map (some (ρ.G o))) u z).run P w=.ok () w'/\K fr' H'/\SR T n G0 F0 n0 w0 fr' H' a w':=by
    intro l r W k I;obtain⟨s1,s2⟩:=heap_set (o':=l) D;refine⟨_,_,_,I,k,ρ,F,R,h.CZ O (by simp) (by simp) s1 s2 W,?_⟩;rw[OH];refine A.HL rfl rfl rfl (by simp) λb X hn=>s2 b ?_;rintro rfl;exact hn o (oM.1 O).1 rfl
   rcases findNow_spec c es.toList 0 q with⟨m,f⟩|⟨j,e0,m,f,J⟩
   ·rw[Gj,wJ c E (by
     intro y hy;rw[<-p] at hy;obtain⟨x,A,rfl⟩:=mO.1 hy
     exact f x A)] at k
    refine fin (.map (es.push {key:=u,val:=z,born:=clock}) (clock+1)) _ (.map ?_ ?_ ?_ ?_ ?_) k ?_
    ·simp[p]
    ·simpa using S.append (.cons B.norm .nil)
    ·simp[Z,U,List.range_succ]
    ·simp[U]
    ·rw[List.nodup_append];refine⟨V,by simp,?_⟩;intro a ha b X;simp only[xn] at X;subst X;rw[<-p] at ha;obtain⟨x,A,rfl⟩:=mO.1 ha;exact f x A
    ·simp[Instr.mapUpdate,run_underlying hu,MapKept.run_getObj_map D,run_checkKey L c,run_findKey L m,run_setObj_map _ D,Result.andThen]
   ·have s:=Cp p f;rw[J] at s;rw[Gj,vG c E V s] at k
    have hj:es[j]?=some e0:=by simpa using f
    simp only[sy] at m;refine fin (.map (es.modify j λe=>{e with key:=u,val:=z}) clock) _ (.map ?_ ?_ ?_ U V) k ?_
    ·rw[yh _ _ _ _ f,p,HQ s]
    ·rw[yh _ _ _ _ f];exact S.aab B.norm j
    ·rw[yh _ _ _ _ f,HQ (by rw[uZ,f];rfl),Z]
    ·simp[Instr.mapUpdate,run_underlying hu,MapKept.run_getObj_map D,run_checkKey L c,run_findKey L m,hj,J,run_keyThatStays c,run_setObj_map _ D,Result.andThen]
  ·exact k.elim
 ·exact k.elim
def rj{G0:Nat->Nat}{F0:jH}{n0:Nat}{w0:World}(h:WR T n w0.heap.size ρ F R fr H a w)(i:Ext w0.heap.size G0 F0 n0 w0 ρ.G F H.length w){c:Obj}{cs:List AV}(e:j4 F ρ.G ρ.n cs c)
  {dst:Option Nat} (k:∀d,dst=some d->d<n) {x:AV} {v:Value} (l:∀ρ':Maps,(∀o,o<H.length->ρ'.G o=ρ.G o)->ρ'.G H.length=w.heap.size->ρ'.n=H.length+1->fB F ρ'.G ρ'.n x v):SR T n G0 F0 n0 w0 (fr.put dst x) (H++[cs]) (a.put dst v) (w.alloc c):=by
 obtain⟨ρ',m,hG,b,f,hw⟩:=(h.alloc c).Lb (h.lz _ (hO _)) (λj=>h.g.fresh _ j (hO _)) (heap_alloc_new w _) e;refine⟨ρ',F,m,hw.put k (.p (l ρ' hG b f)),?_⟩;rw[pJ];exact(i.alloc h.p5 _).WT hG (by rw[b];exact h.p5)
def yG{G0:Nat->Nat}{F0:jH}{n0:Nat}{w0:World}(h:WR T n w0.heap.size ρ F R fr H a w)(p:Ext w0.heap.size G0 F0 n0 w0 ρ.G F H.length w){t k:Nat}{parts:List (Nat×AV)}{pv:List (Nat×Value)}{tag:Tag}{l:List AV}
  {dst:Option Nat} (q:k1 P t k parts=some (.slice tag l)) (c:gi (λ(x:Nat×AV) (y:Nat×Value)=>x.1=y.1/\fl F ρ x.2 y.2) parts pv) (r:∀d,dst=some d->d<n):∃v w',(Instr.buildSlice t k pv.toArray).run P w=.ok v w'/\SR T n G0 F0 n0 w0 (fr.put dst (.yx H.length 0 l.length l.length)) (H++[l.flatMap AV.cells]) (a.put dst v) w':=by
 obtain⟨u,us,e,sz,he,i,AT,s,b,f,g⟩:=vM w q c;injection he with _ he;subst he;refine⟨_,_,g,rj h p (.cells (.inl rfl) (by simpa using b) f) r ?_⟩;intro ρ' hG j m;have:=fB.yx (F:=F) (G:=ρ'.G) (n:=ρ'.n) (o:=H.length) (off:=0) (len:=l.length) (cap:=l.length) (by rw[m];omega) (hO _) (by rw[i];exact AT);rw[j,i] at this;rw[i];exact this
def Fl{G0:Nat->Nat}{F0:jH}{n0:Nat}{w0:World}(h:WR T n w0.heap.size ρ F R fr H a w)(e:Ext w0.heap.size G0 F0 n0 w0 ρ.G F H.length w){t:TypeId}{dst:Option Nat}(f:∀d,dst=some d->d<n):∃v w',(Instr.makeMap t none).run P w=.ok v w'/\SR T n G0 F0 n0 w0 (fr.put dst (.oa H.length)) (H++[[.sC [] []]]) (a.put dst v) w':=by
 refine⟨.map (some w.heap.size),w.alloc (.map #[] 0),by simp[Instr.makeMap,Result.andThen],rj h e (.map (by simp) (by simp;exact .nil) (by simp) rfl (by simp)) f ?_⟩;intro ρ' hG b c;have:=fB.oa (F:=F) (G:=ρ'.G) (n:=ρ'.n) (o:=H.length) (by rw[c];omega);rw[b] at this;exact this
def Ik{G0:Nat->Nat}{F0:jH}{n0:Nat}{w0:World}(h:WR T n w0.heap.size ρ F R fr H a w)(l:Ext w0.heap.size G0 F0 n0 w0 ρ.G F H.length w){t:TypeId}{x:AV}{k:Value}{dst:Option Nat}{K:Fr->cV->Prop}
  (b:GQ P t x dst K fr H) (m:∀d,dst=some d->d<n) (c:fl F ρ x k):∃v w' fr' H',(Instr.range t k).run P w=.ok v w'/\K fr' H'/\SR T n G0 F0 n0 w0 fr' H' (a.put dst v) w':=by
 unfold GQ at b
 split at b
 ·rename_i kt e o hu
  split at b
  ·rename_i ks xs p;obtain⟨rfl,f⟩:=z7 c;obtain⟨u,q,r⟩:=h.g.ka o _ p;obtain⟨es,clock,rfl,y,z,A,s,B⟩:=r.yP;subst s;refine⟨_,_,_,_,run_range_map w t kt e (ρ.G o) es ks.length hu q,b,rj h l (.iter (seen:=[]) f) m ?_⟩;intro ρ' hG i j;have:=fB.ei (F:=F) (G:=ρ'.G) (n:=ρ'.n) (o:=H.length) (off:=0) (by rw[j];omega);rw[i] at this;exact this
  ·exact b.elim
 ·exact b.elim
def IM{es:Array MapEntry}{k:Nat}(h:es.toList.map (·.born)=List.range k){e:MapEntry}(he:e∈es.toList):e.born<k/\es.toList[e.born]?=some e:=by
 obtain⟨j,c⟩:=TF.1 he
 have b:(es.toList.map (·.born))[j]?=some e.born:=by rw[uZ,c];rfl
 rw[h] at b
 have a:j<k:=by
  have:=(oM.1 b).1;simpa using this
 rw[Th a] at b
 have:j=e.born:=by simpa using b
 rw[<-this];exact⟨a,c⟩
def EW(w:World){it m since:Nat}{seen:Array Nat}{es:Array MapEntry}(ty:TypeId)(hit:w.heap[it]?=some (.mapIter (some m) since seen since))(hm:w.heap[m]?=some (.map es since))(q:es.toList.map (·.born)=List.range since):((∀e∈es.toList,e.born∈seen)/\(Instr.next (.pointer (some ⟨it,0,none⟩)) false ty).run P w=.ok (.tuple #[.bool false]) w)\/∃e∈es.toList,e.born∉seen/\∃a,(a=w\/a=w.drew)/\(Instr.next (.pointer (some ⟨it,0,none⟩)) false ty).run P w=.ok (.tuple #[.bool true,e.key,e.val]) {a with heap:=a.heap.setIfInBounds it (.mapIter (some m) since (seen.push e.born) since)}:=by
 have hold:∀x∈es.toList,x.born<since:=λx c=>(IM q c).1;simp only[Instr.next,getObj,fL,Sem.run,hit,hm,Result.andThen,next_test_false seen es since since hold (hO _),qJ,lG]
 have k:∀x,x∈(Array.filter (λe=>!seen.contains e.born) es).toList↔x∈es.toList/\x.born∉seen:=by
  intro x;simp
 generalize Array.filter (λe=>!seen.contains e.born) es=L at k|-;have b:∀x∈L.toList,x.born<since:=λx c=>hold x ((k x).1 c).1;have r:L.filter (λx=>decide (x.born<since))=L:=Array.filter_eq_self.2 (λx c=>by simpa using b x (by simpa using c))
 have s:L.filter (λx=>decide (x.born>=since))=#[]:=by
  rw[Array.filter_eq_empty_iff];intro x c;have:=b x (by simpa using c);simp;omega
 simp only[r,s,Array.append_empty]
 by_cases o:L.size=0
 ·left;have:L=#[]:=P3 o;subst this;refine⟨?_,?_⟩
  · intro e he;cases Decidable.em (e.born∈seen)with
    |inl h=>exact h|inr h=>have:=(k e).2 ⟨he,h⟩;simp at this
  · simp[choose,Sem.run,Question.forced]
 ·right
  have l:L.isEmpty=false:=by simp[Array.isEmpty,o]
  simp only[l,qJ,lG,Array.empty_append,Array.size_map]
  have n:∃(j:Nat) (a:World),j<L.size/\(a=w\/a=w.drew)/\(choose (Question.mapNext L.size)).run P w=.ok j a:=by
    by_cases p:L.size<=1
    ·exact⟨0,w,by omega,.inl rfl,by simp[choose,Sem.run,Question.forced,p]⟩
    ·exact⟨_,w.drew,Q8 _ (by omega),.inr rfl,by
      simp only[choose,Sem.run,Question.forced,kR,p,lG,Question.cut]
      rfl⟩
  obtain⟨j,a,t,d,f⟩:=n;have g:=(k L[j]).1 (by simp);refine⟨L[j],g.1,g.2,a,d,?_⟩
  have i:a.heap[it]?=some (.mapIter (some m) since seen since):=by
    rcases d with rfl|rfl
    ·exact hit
    ·exact hit
  have fu:∀(o':Obj),(setObj it o').run P a=.ok () {a with heap:=a.heap.setIfInBounds it o'}:=λo'=>by
    simp only[setObj,Sem.run,i]
  simp only[f,Array.getElem?_map,L9 t,KG,fL,fu,Result.andThen];rfl
def Kn(h:WR T n B0 ρ F R fr H a w){x r:AV}{B:Value}(b:Hl x H=some r)(s:fl F ρ x B):∃v,(Instr.entry B).run P w=.ok v w/\fl F ρ r v:=by
 unfold Hl at b
 split at b
 ·rename_i i
  split at b
  ·rename_i o since seen hi
   split at b
   ·rename_i ks xs j I J
    split at b
    ·rename_i k v C K
     split at b
     ·rename_i L;obtain⟨hlen,t⟩:=L;injection b with b;subst b;obtain⟨rfl,M⟩:=ry s;obtain⟨X,g1,g2⟩:=h.g.ka i _ hi;obtain⟨rfl,N⟩:=g2.IG;obtain⟨O,Q,S⟩:=h.g.ka o _ I;obtain⟨es,clock,rfl,D,E,u,G,Y⟩:=S.yP;rw[hlen] at u G;subst G;rw[<-h.hn] at E;obtain⟨U,e,y⟩:=E.get K
      have z:j<clock:=by rw[<-hlen];exact(oM.1 C).1
      have f:j<es.toList.length:=by
       have:(es.toList.map (·.key)).length=ks.length:=by rw[D]
       simp only[BK] at this;omega
      have c:es.toList[j]?=some es.toList[j]:=na f
      have V:es.toList[j].born=j:=by
       have l:(es.toList.map (·.born))[j]?=some es.toList[j].born:=by rw[uZ,c];rfl
       rw[u,Th z] at l;exact(gk l).symm
      have m:es.toList[j].key=k:=by
       have l:=Cp D c;rw[C] at l;exact(gk l).symm
      have q:es.toList[j].val=U:=by
       rw[uZ,c] at e;exact gk e
      have W:es.find? (·.born==j)=some es.toList[j]:=by
       rw[<-Array.find?_toList]
       have A:(es.toList.map (·.born)).Nodup:=by rw[u];exact List.nodup_range
       have:=find_born es.toList[j] es.toList A (BT f);rw[V] at this;exact this
      have d:seen.toArray.back?=some j:=by
       rw[<-J];simp
      refine⟨.tuple #[es.toList[j].key,es.toList[j].val],?_,.p (.tuple (vs:=[es.toList[j].key,es.toList[j].val]) (.cons (by rw[m];exact .sc t) (.cons (by rw[q];exact y) .nil)))⟩;simp only[Instr.entry,getObj,fL,Sem.run,g1,Q,Result.andThen,d,bne_self_eq_false,qJ,lG,W];rfl
     ·cases b
    ·cases b
   ·cases b
  ·cases b
 ·cases b
def KH{G0:Nat->Nat}{F0:jH}{n0:Nat}{w0:World}(h:WR T n w0.heap.size ρ F R fr H a w)(y:Ext w0.heap.size G0 F0 n0 w0 ρ.G F H.length w){x:AV}{V:Value}{dst:Option Nat}{K:Fr->cV->Prop}(ty:TypeId)
  (f:KS x dst K fr H) (W:∀d,dst=some d->d<n) (z:fl F ρ x V):∃v w' fr' H',(Instr.next V false ty).run P w=.ok v w'/\K fr' H'/\SR T n G0 F0 n0 w0 fr' H' (a.put dst v) w':=by
 unfold KS at f
 split at f
 ·rename_i i
  split at f
  ·rename_i o since seen hi
   split at f
   ·rename_i ks xs ho;obtain⟨hlen,A,B,C⟩:=f;obtain⟨rfl,aa⟩:=ry z;obtain⟨ob,g1,g2⟩:=h.g.ka i _ hi;obtain⟨rfl,D⟩:=g2.IG;obtain⟨ab,h1,h2⟩:=h.g.ka o _ ho;obtain⟨es,clock,rfl,X,E,u,Y,e5⟩:=h2.yP;rw[hlen] at u Y;subst Y;rw[<-h.hn] at E
    have ad:es.toList.length=ks.length:=by rw[<-X];simp
    rcases EW (P:=P) w ty g1 h1 u with⟨l,c⟩|⟨e,he,I,J,k,c⟩
    ·refine⟨_,_,_,_,c,B ?_,ρ,F,R,h.put W (.p (.tuple (vs:=[.bool false]) (.cons (.sc rfl) .nil))),y⟩;intro j hj
     have m:j<es.toList.length:=by omega
     have hm:=l es.toList[j] (BT m)
     have L:(es.toList.map (·.born))[j]?=some es.toList[j].born:=by rw[uZ,na m];rfl
     rw[u,Th (by omega)] at L
     have:j=es.toList[j].born:=by simpa using L
     rw[this];simpa using hm
    ·obtain⟨b1,M⟩:=IM u he;have Z:ks[e.born]?=some e.key:=Cp X M
     have N:(es.toList.map (·.val))[e.born]?=some e.val:=by rw[uZ,M];rfl
     have ae:xs.length=es.toList.length:=by have:=E.length;simpa using this
     obtain⟨v,hv⟩:∃v,xs[e.born]?=some v:=⟨_,na (by have:=(oM.1 M).1;omega)⟩;obtain⟨vv,q,O⟩:=E.get hv
     have:vv=e.val:=by rw[N] at q;simpa using q.symm
     subst this;have r:xb e.key=true:=jr.1 A _ (DP Z);have Q:=C e.born e.key v Z hv (by simpa using I)
     have s:WR T n w0.heap.size ρ F R fr H a J:=by
      rcases k with rfl|rfl
      ·exact h
      ·exact h.drew
     have t:Ext w0.heap.size G0 F0 n0 w0 ρ.G F H.length J:=by
      rcases k with rfl|rfl
      ·exact y
      ·exact y.drew
     have S:J.heap[ρ.G i]?=some (.mapIter (some (ρ.G o)) clock seen.toArray clock):=by
      rcases k with rfl|rfl
      ·exact g1
      ·exact g1
     obtain⟨s1,s2⟩:=heap_set (o':=.mapIter (some (ρ.G o)) clock (seen.toArray.push e.born) clock) S
     have U:j4 F ρ.G ρ.n [.u' o clock (seen++[e.born])] (.mapIter (some (ρ.G o)) clock (seen.toArray.push e.born) clock):=by
      have:=j4.iter (F:=F) (G:=ρ.G) (n:=ρ.n) (o:=o) (since:=clock) (seen:=seen++[e.born]) (by rw[h.hn];exact D);simpa using this
     refine⟨_,_,_,_,c,Q,ρ,F,R,(s.CZ hi (by simp) (by simp) s1 s2 U).put W (.p (.tuple (vs:=[.bool true,e.key,e.val]) (.cons (.sc rfl) (.cons (.sc r) (.cons O .nil))))),?_⟩;rw[OH];refine t.HL rfl rfl rfl (by simp) λb L hn=>s2 b ?_;rintro rfl;exact hn i (oM.1 hi).1 rfl
   ·exact f.elim
  ·exact f.elim
 ·exact f.elim
end
end Go.ky
