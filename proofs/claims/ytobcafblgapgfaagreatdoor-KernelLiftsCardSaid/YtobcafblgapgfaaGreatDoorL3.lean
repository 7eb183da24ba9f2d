/- Part of the proof of KernelLifts, KernelPuts, KernelCuts: layer. -/
import Derived.Great.BuildSlice
import Derived.Lib.AppendStr
import Derived.MapKept
import Derived.Laws.IdiomRangeMap
import Derived.Test.YtobcafblgapgfaaGreatDoorL2
set_option linter.all false
namespace Go.tq
open Go
section
variable{B:Nat} {G G':Nat->Nat} {F F':rv} {n:Nat} {G0:Nat->Nat} {F0:rv} {n0:Nat} {w0 w w':World}
def Ext.TP(h:Ext B G0 F0 n0 w0 G F n w)(a:w'.os=w.os)(c:w'.tape=w.tape)(d:w'.output=w.output)(hs:w.heap.size<=w'.heap.size)
  (e:∀b,b<B->(∀o,o<n->G o≠b)->w'.heap[b]?=w.heap[b]?):Ext B G0 F0 n0 w0 G F n w':=
 h.trans ⟨a,c,d,hs,jM _,λ_ _=>rfl,λ_ h f=>absurd f Zb,λ_ _ _ _=>rfl,λ_ _ _ _ h=>h,e⟩
def Ext.drew(h:Ext B G0 F0 n0 w0 G F n w):Ext B G0 F0 n0 w0 G F n w.drew:=h.TP rfl rfl rfl (jM _) λ_ _ _=>rfl
def Ext.alloc(h:Ext B G0 F0 n0 w0 G F n w)(a:B<=w.heap.size)(o:Obj):Ext B G0 F0 n0 w0 G F n (w.alloc o):=
 h.TP rfl rfl rfl aae λb c _=>heap_alloc_old w o Zb
def Ext.setRow(h:Ext B G0 F0 n0 w0 G F n w){g:Nat}(hg:B<=g\/∃o,o<n/\G o=g)(cs:Array Value):Ext B G0 F0 n0 w0 G F n (w.setRow g cs):=
 h.TP rfl rfl rfl (by rw[size_setRow];exact jM _) λb c hn=>setRow_other w g b cs (by
  rintro rfl;rcases hg with hg|⟨o,a,hg⟩
  ·omega
  ·exact hn o a hg)
def Ext.freeze(h:Ext B G0 F0 n0 w0 G F n w)(hF:∀b j,b<B->F' b j=F b j):Ext B G0 F0 n0 w0 G F' n w:=
 h.trans ⟨rfl,rfl,rfl,jM _,jM _,λ_ _=>rfl,λ_ h c=>absurd c Zb,λb j a _=>hF b j a,λb j v a d=>(hF b j a).trans d,λ_ _ _=>rfl⟩
def Ext.YO(h:Ext B G0 F0 n0 w0 G F n w)(hF:∀b j,(∀o,o<n->G o≠b)->F' b j=F b j)(mF:∀b j v,F b j=some v->F' b j=some v):Ext B G0 F0 n0 w0 G F' n w:=
 h.trans ⟨rfl,rfl,rfl,jM _,jM _,λ_ _=>rfl,λ_ h a=>absurd a Zb,λb j _ hg=>hF b j hg,λb j v _ c=>mF b j v c,λ_ _ _=>rfl⟩
def Ext.acm(h:Ext B G0 F0 n0 w0 G F n w)(hG:∀o,o<n->G' o=G o)(hn:B<=G' n):Ext B G0 F0 n0 w0 G' F (n+1) w:=
 h.trans ⟨rfl,rfl,rfl,jM _,Zb,hG,λo a b=>(by rw[show o=n from Zb];exact hn),λ_ _ _ _=>rfl,λ_ _ _ _ h=>h,λ_ _ _=>rfl⟩
end
def SR(T:fx)(n:Nat)(G0:Nat->Nat)(F0:rv)(n0:Nat)(w0:World)(fr:Fr)(H:dM)(a:Act)(w:World):Prop:=
 ∃ρ F R,WR T n w0.heap.size ρ F R fr H a w/\Ext w0.heap.size G0 F0 n0 w0 ρ.G F H.length w
def Ds(P:Program)(fr:Fr)(H:dM)(t:TypeId)(x:AV):Option AV:=
 match x with
 |.tB v=>if BJ P t v then some v else none|.mD b g off=>if g=fr.gen b then(match fr.box b with|some cs=>tH P t cs off|none=>none)else none
 |.gS o off=>match H[o]?with|some cs=>if Fe cs then tH P t cs off else none|none=>none
 |_=>none
section
variable{P:Program} {T:fx} {n B0:Nat} {ρ:Maps} {F:rv} {R:Nat->x0} {fr:Fr} {H:dM} {a:Act} {w:World}
def VN{t:TypeId}{v:AV}(h:BJ P t v=true):(∃k cs,jd P t=some (true,k)/\v=.agg cs/\cs.length=k)\/(∃k,jd P t=some (false,k)/\v.k7=true):=by
 unfold BJ at h;cases a:jd P t with
 |none=>grind|some p=>
  obtain⟨b,k⟩:=p;rw[a] at h;cases b
  ·cases v<;>first|(simp at h;done)|exact .inr ⟨k,rfl,rfl⟩
  ·grind
def Jw(w:World){t:TypeId}{b off:Nat}{cs:List AV}{vs:Array Value}{ty:TypeId}{e:Nat×Nat}{z:AV}(h:w.heap[b]?=some (.cells vs ty e))
  (a:lY (pj F ρ) cs vs.toList) (d:∀c∈cs,c.k7=true) (l:tH P t cs off=some z):∃v,(Instr.loadAt t (.pointer (some ⟨b,off,none⟩))).run P w=.ok v w/\kI F ρ z v:=by
 unfold Instr.loadAt;rcases ID l with⟨k,f,hle,rfl⟩|⟨k,f,g⟩
 ·refine⟨.agg ((vs.toList.drop off).take k).toArray,?_,.agg ((a.drop off).take k) (λc g=>d c (QH (MG g)))⟩;refine HY f w ⟨b,off,none⟩ _ (by have:=a.length;simp only[Kn,YC];omega) ?_;intro j v i;rw[Addr.add_lit,cell_of_row w b _ vs ty e h]
  grind
 ·obtain⟨v,i,m⟩:=a.get g;refine⟨v,?_,.cell m⟩;refine H0 f w ⟨b,off,none⟩ v ?_;rw[cell_of_row w b _ vs ty e h];simpa using i
def Q5(h:WR T n B0 ρ F R fr H a w){t:TypeId}{x z:AV}{u:Value}(c:Ds P fr H t x=some z)(l:kI F ρ x u):∃v,(Instr.loadAt t u).run P w=.ok v w/\kI F ρ z v:=by
 unfold Ds at c
 split at c
 ·rename_i v
  split at c
  ·rename_i A;injection c with c;subst c;obtain⟨b,o,vs,rfl,e,m,q⟩:=My l;unfold Instr.loadAt;simp only[Instr.sureAddr,mb,yr,qP];rcases VN A with⟨k,cs,d,rfl,B⟩|⟨k,d,i⟩
   ·refine⟨.agg vs.toArray,?_,.p (.agg e q)⟩;refine HY d w ⟨b,o,none⟩ vs (by rw[<-e.length];exact B) ?_;intro j v C;rw[Addr.add_lit];exact h.g.NK b _ v (m j v C)
   ·rw[AV.JU i] at e;cases e with
    |cons e hn=>
     cases hn;rename_i u;refine⟨u,?_,.p e⟩;refine H0 d w ⟨b,o,none⟩ u ?_;exact h.g.NK b o u (m 0 u rfl)
  ·cases c
 ·rename_i b g off
  split at c
  ·rename_i hg
   split at c
   ·rename_i cs r;obtain⟨rfl,_⟩:=GB l;obtain⟨e,m,q,vs,ty,s,f⟩:=h.box b cs r;rw[hg];exact Jw w s f q c
   ·cases c
  ·cases c
 ·rename_i o off
  split at c
  ·rename_i cs r
   split at c
   ·rename_i y;obtain⟨rfl,_⟩:=DO l;obtain⟨E,s,f⟩:=h.g.sN o cs r;obtain⟨vs,ty,G,rfl,_,f,D⟩:=f.Oh y;rw[<-h.hn] at f;exact Jw w s (f.mono λ_ _ _ h=>.p h) D c
   ·cases c
  ·cases c
 ·cases c
def V6{w:World}{b j:Nat}{vs:Array Value}{ty:TypeId}{a:Nat×Nat}(d:w.heap[b]?=some (.cells vs ty a))(c:V0 a vs.size)(e:j<vs.size):w.frozen? ⟨b,j,none⟩=false:=by
 unfold World.frozen?;rcases c with h|h
 all_goals grind
theorem Fs(P:Program)(b o:Nat)(ty:TypeId)(a:Nat×Nat):∀(us:List Value) (i:Nat) (vs:Array Value) (w:World),w.heap[b]?=some (.cells vs ty a)->V0 a vs.size->o+i+us.length<=vs.size->(∀u∈us,u.oneCell'=true)->(storeCells ⟨b,o,none⟩ us i).run P w=.ok () (w.setRow b (vs.toList.take (o+i)++us++vs.toList.drop (o+i+us.length)).toArray)
 |[],i,vs,w,c,_,_,_=>by
  have e:=setRow_self w b vs ty a c;simp only[storeCells,Dn,o7,oH,List.take_append_drop,Vl,e];rfl
 |u::us,i,vs,w,c,h,m,l=>by
  simp only[hQ] at m
  have d:o+i<vs.size:=Zb
  have n:w.cell? ⟨b,o+i,none⟩=some vs[o+i]:=by
   rw[cell_of_row w b _ vs ty a c];exact aaZ d
  have hs:(store ((⟨b,o,none⟩:Addr).add i) u).run P w=.ok () (w.setRow b (vs.setIfInBounds (o+i) u)):=by
   rw[Addr.add_lit,run_store P w _ u _ (l u aae),n];simp[V6 c h d,setCell_eq_setRow w b (o+i) vs ty a u c]
  have g:=setRow_heap w b vs (vs.setIfInBounds (o+i) u) ty a c;have p:=Fs P b o ty a us (i+1) _ _ g (by simpa using h) aaV (λx q=>l x (by simp[q]));rw[storeCells];simp only[mb,hs,qP];rw[p,setRow_setRow]
  congr 2
  apply Pl.1;simp only[abU];apply WV;intro j;simp only[ml,hQ,XU]
  have f:∀k,k<=vs.toList.length->(vs.toList.take k).length=k:=λk y=>by rw[Kn];omega
  have r:vs.toList.length=vs.size:=aae
  rcases YN j (o+i)with hj|hj|hj
  ·grind
  ·grind
  ·have s:∀X:List Value,((vs.toList.set (o+i) u).take (o+(i+1))++X)[j]?=X[j-(o+(i+1))]?:=λX=>by
    have t:((vs.toList.set (o+i) u).take (o+(i+1))).length=o+(i+1):=by rw[Kn,Yl];omega
    rw[xo Zb,t]
   have v:∀X:List Value,(vs.toList.take (o+i)++u::X)[j]?=X[j-(o+(i+1))]?:=λX=>by
    rw[xo (by rw[f _ Zb];omega),f _ Zb,show j-(o+i)=(j-(o+(i+1)))+1 by omega,iU]
   rw[s,v];rcases zj (j-(o+(i+1))) us.length with hu|hu
   ·rw[uj hu,uj hu]
   ·rw[xo hu,xo hu,WL,WL,Pp Zb]
    congr 1
    omega
def H3(w:World){t:TypeId}{b off k:Nat}{bl:Bool}{vs:Array Value}{ty:TypeId}{a:Nat×Nat}{v:Value}(f:w.heap[b]?=some (.cells vs ty a))(d:V0 a vs.size)
  (e:jd P t=some (bl,k)) (g:v.cells.size=k) (c:off+k<=vs.size) (h:∀u∈v.cells.toList,u.oneCell'=true):(Instr.storeAt t (.pointer (some ⟨b,off,none⟩)) v).run P w=.ok () (w.setRow b (vs.toList.take off++v.cells.toList++vs.toList.drop (off+v.cells.toList.length)).toArray):=by
 unfold Instr.storeAt;simp only[Instr.sureAddr,mb,yr];unfold storeVar;simp only[mb,qM e,qP]
 grind[Fs]
end
def rG(E:List Nat)(dst:Option Nat)(cells:List AV)(K:Fr->dM->Prop)(fr:Fr)(H:dM):Prop:=
 match dst with
 |some d=>
  if E.contains d then K {fr with env:=kQ fr.env d (.gS H.length 0)} (H++[cells.map AV.ra])
  else K {fr with env:=kQ fr.env d (.mD d (fr.gen d+1) 0),box:=kQ fr.box d (some cells),gen:=kQ fr.gen d (fr.gen d+1)} H
 |none=>False
def uh(P:Program)(t:TypeId)(x v:AV)(K:Fr->dM->Prop)(fr:Fr)(H:dM):Prop:=
 match jd P t with
 |none=>False|some (_,n)=>
  match x with
  |.mD b g off=>
   match fr.box b with
   |some cs=>g=fr.gen b/\v.cells.length=n/\off+n<=cs.length/\iu v=true/\K {fr with box:=kQ fr.box b (some (setCells cs off v.cells))} H|none=>False
  |.gS o off=>
   match H[o]?with
   |some cs=>Fe cs=true/\v.cells.length=n/\off+n<=cs.length/\iu v=true/\K fr (H.set o (setCells cs off v.norm.cells))|none=>False
  |_=>False
section
variable{P:Program} {T:fx} {n:Nat} {G0:Nat->Nat} {F0:rv} {n0:Nat} {w0:World} {fr:Fr} {H:dM} {a:Act} {w:World}
theorem AV.BX{x:AV}(h:iu x=true):x.norm.cells=x.cells.map AV.ra:=by
 cases x<;>first|rfl|(simp[iu] at h)
theorem JT{cs:List AV}(h:∀c∈cs,c.k7=true):∀c∈cs.map AV.ra,c.k7=true:=by grind[AV.Nd]
def qd{F:rv}{ρ:Maps}{cs:List AV}{vs:List Value}(h:lY (pj F ρ) cs vs)(a:∀c∈cs,c.k7=true):∀u∈vs,u.oneCell'=true:=by
 intro u hu;obtain⟨x,b,d⟩:=h.mem hu;exact d.Su (a x b)
def Nu{ρ:Maps}{F:rv}{R:Nat->x0}(h:WR T n w0.heap.size ρ F R fr H a w)(p:Ext w0.heap.size G0 F0 n0 w0 ρ.G F H.length w){E:List Nat}{dst:Option Nat}{cells:List AV}{K:Fr->dM->Prop}
  (i:rG E dst cells K fr H) (r:∀d,dst=some d->d<n) {vs:Array Value} (ty:TypeId) (k:lY (pj F ρ) cells vs.toList) (e:∀c∈cells,c.k7=true):∃fr' H',K fr' H'/\SR T n G0 F0 n0 w0 fr' H' (a.put dst (.pointer (some ⟨w.heap.size,0,none⟩))) (w.alloc (.cells vs ty)):=by
 unfold rG at i
 split at i
 ·rename_i d;have l:=r d rfl;have q:=h.alloc (.cells vs ty);have b:R w.heap.size=.free:=h.tf _ (jM _);have hF:∀j,F w.heap.size j=none:=λj=>h.g.fresh _ j (jM _);have f:(w.alloc (.cells vs ty)).heap[w.heap.size]?=some (.cells vs ty (0,0)):=heap_alloc_new w _
  split at i
  ·obtain⟨ρ',m,hG,o,hw⟩:=q.aay b hF f (k.G1 AV.ra λ_ _ _ h=>h.ra) (JT e) l;refine⟨_,_,i,ρ',F,m,hw,?_⟩;rw[oG];exact(p.alloc h.Ag _).acm hG (by rw[o];exact h.Ag)
  ·obtain⟨ρ',m,hG,hw⟩:=q.Zn h.Ag b hF f k e l;refine⟨_,_,i,ρ',F,m,hw,?_⟩;rw[hG];exact p.alloc h.Ag _
 ·exact i.elim
def Ug(w:World){t:TypeId}{z:Value}(a:zeroOf P t=some z):(Instr.alloc t true (.tuple #[])).run P w=.ok (.pointer (some ⟨w.heap.size,0,none⟩)) (w.alloc (.cells z.cells t)):=by
 have b:(zeroValue t).run P w=.ok z w:=by
  unfold zeroOf at a;cases hi:P.info? t with
  |none=>rw[hi] at a;cases a
  |some i=>
   rw[hi] at a;simp at a;simp[zeroValue,typeInfo,hi,a]
 unfold Instr.alloc;simp only[mb,b];rfl
def Ka{v:Value}(h:JS v=true)(a:∀vs,v≠ .tuple vs):(ofValue v).cells=v.cells.toList.map zp/\∀u∈v.cells.toList,u.oneCell'=true:=by
 cases v with
 |agg cs=>
  refine⟨rfl,λu hu=>?_⟩
  have b:cs.all (·.oneCell')=true:=h
  exact QF.1 b u (Ib.1 hu)
 |tuple vs=>grind|_=>
  constructor
  ·rw[NB rfl];exact AV.JU (Ht _)
  ·simp[Value.cells,Value.oneCell']
def T0{ρ:Maps}{F:rv}{R:Nat->x0}(h:WR T n w0.heap.size ρ F R fr H a w)(E:Ext w0.heap.size G0 F0 n0 w0 ρ.G F H.length w){t:TypeId}{x v:AV}{I p:Value}{K:Fr->dM->Prop}
  (f:uh P t x v K fr H) (r:kI F ρ x I) (j:kI F ρ v p):∃fr' H' w',(Instr.storeAt t I p).run P w=.ok () w'/\K fr' H'/\SR T n G0 F0 n0 w0 fr' H' a w':=by
 unfold uh at f
 split at f
 ·exact f.elim
 ·rename_i bl k J
  split at f
  ·rename_i b g off
   split at f
   ·rename_i cs s;obtain⟨hg,N,u,e,f⟩:=f;obtain⟨rfl,_⟩:=GB r;obtain⟨O,S,L,vs,ty,A,m⟩:=h.box b cs s;have d:=j.cells (m_ e);have hlen:=d.length
    have q:p.cells.toList.length=p.cells.size:=aae
    have B:cs.length=vs.size:=by simpa using m.length
    have iE:=m.setCells d off;rw[hlen] at iE;rw[hg]
    have i:∀c∈setCells cs off v.cells,c.k7=true:=by
     intro c y;simp only[setCells,tA] at y;rcases y with(hm|hm)|hm
     ·exact L c (MG hm)
     ·exact j.F5 (m_ e) c hm
     ·exact L c (QH hm)
    refine⟨_,_,_,H3 w A (.inl rfl) J Zb Zb (qd d (j.F5 (m_ e))),f,ρ,F,R,h.W7 s (by simpa using iE) i,E.setRow (.inl O) _⟩
   ·exact f.elim
  ·rename_i o off
   split at f
   ·rename_i cs s;obtain⟨z,N,u,e,f⟩:=f;obtain⟨rfl,Q⟩:=DO r;obtain⟨U,A,m⟩:=h.g.sN o cs s;obtain⟨vs,ty,V,rfl,C,m,M⟩:=m.Oh z;have d:=j.cells (m_ e);have hlen:=d.length
    have q:p.cells.toList.length=p.cells.size:=aae
    have B:cs.length=vs.size:=by simpa using m.length
    have l:lY (k5 F ρ.G ρ.n) v.norm.cells p.cells.toList:=by
     rw[AV.BX e];exact d.G1 AV.ra λ_ _ _ h=>h.ra
    rw[<-h.hn] at m;have iE:=m.setCells l off
    have D:v.norm.cells.length=v.cells.length:=by rw[AV.BX e];simp
    rw[D,hlen] at iE
    have i:∀c∈setCells cs off v.norm.cells,c.k7=true:=by
     intro c y;simp only[setCells,tA] at y;rcases y with(hm|hm)|hm
     ·exact M c (MG hm)
     ·rw[AV.BX e] at hm;exact JT (j.F5 (m_ e)) c hm
     ·exact M c (QH hm)
    refine⟨_,_,_,H3 w A C J Zb Zb (qd d (j.F5 (m_ e))),f,ρ,F,R,h.Yr s z (by simpa using iE) (by simp only[setCells,oG,Kn,YC];omega) i,?_⟩;rw[Yl];exact E.setRow (.inr ⟨o,by rw[<-h.hn];exact Q,rfl⟩) _
   ·exact f.elim
  ·exact f.elim
end
end Go.tq
namespace Go.tq
open Go
def zb(P:Program)(t:TypeId):Option (TypeId×Nat):=
 match P.underlying t with
 |some (.slice e)=>
  match P.info? e with
  |some i=>
   match i.zero with
   |some z=>if z.cells.size=i.size/\i.bytes<=128/\0<i.size/\z.cells.toList.all Value.oneCell' then some (e,i.size)else none|none=>none
  |none=>none
 |_=>none
def uM:Nat:=1099511627776
section
variable{P:Program}
def xf{t e:TypeId}{sz:Nat}(h:zb P t=some (e,sz)):∃i z,P.underlying t=some (.slice e)/\P.info? e=some i/\i.zero=some z/\z.cells.size=sz/\i.size=sz/\i.bytes<=128/\0<sz:=by grind[zb]
def fill_flat{sz:Nat}:∀(pv:List Value) (k:Nat) (pre rest:List Value),(∀v∈pv,v.cells.size=sz)->pre.length=k*sz->rest.length=pv.length*sz->Instr.fill (λi=>some (i*sz,sz)) (pre++rest).toArray ((pv.zipIdx k).map λx=>(x.2,x.1))=some (pre++pv.flatMap λv=>v.cells.toList).toArray:=by
 intro pv
 induction pv with
 |nil=>
  intro k pre rest _ _ f;have:rest=[]:=Df (by simpa using f);subst this;simp[Instr.fill]
 |cons v pv j=>
  intro k pre rest d g f;have h:=d v aae
  have e:v.cells.toList.length=sz:=by simp[h]
  rw[hQ,zy,YE] at f;have a:=foldl_set v.cells.toList 0 (k*sz) (pre++rest).toArray (by simp only[aab,oG,oH];omega);simp only[oH,e] at a
  have l:(pre++rest).toArray.toList.take (k*sz)=pre:=by simp[<-g]
  have m:(pre++rest).toArray.toList.drop (k*sz+sz)=rest.drop sz:=by
   simp only[];rw[aa'];rw[Od Zb,k9,<-g]
   congr 1
   omega
  rw[l,m] at a;have c:=j (k+1) (pre++v.cells.toList) (rest.drop sz) (λu hu=>d u (by simp[hu])) (by rw[oG,g,e,zy,YE]) (by rw[YC,f];omega);simp only[List.zipIdx_cons,jc]
  show(if(decide (v.cells.size≠sz)||decide (k*sz+v.cells.size>(pre++rest).toArray.size)) then none
   else Instr.fill (λi=>some (i*sz,sz)) (v.cells.zipIdx.foldl (λcs (x:Value×Nat)=>cs.setIfInBounds (k*sz+x.2) x.1) (pre++rest).toArray) ((pv.zipIdx (k+1)).map λx=>(x.2,x.1)))=_
  rw[cJ (by simp only[h,aab,oG];simp;omega),<-adA,ac2]
  have b:List.foldl (λcs (x:Value×Nat)=>cs.setIfInBounds (k*sz+x.2) x.1) (pre++rest).toArray v.cells.toList.zipIdx=(pre++v.cells.toList++rest.drop sz).toArray:=by
   apply Pl.1;rw[a]
  rw[b,c];simp[P_,ml]
end
section
variable{T:fx} {n B0:Nat} {ρ:Maps} {F:rv} {R:Nat->x0} {fr:Fr} {H:dM} {a:Act} {w:World}
def rj(F:rv)(b k:Nat)(vs:List Value):rv:=λa j=>if a=b/\j<k then vs[j]?else F a j
def IY(F:rv)(b:Nat)(vs:List Value):(rj F b vs.length vs).has b 0 vs:=by
 intro i v a;show(if b=b/\0+i<vs.length then vs[0+i]?else F b (0+i))=some v
 grind
def WR.freeze(h:WR T n B0 ρ F R fr H a w){b:Nat}{vs:Array Value}{ty:TypeId}{k:Nat}{us:List Value}(l:R b=.free)(hF:∀j,F b j=none)
  (z:w.heap[b]?=some (.cells vs ty (0,0))) (s:OD vs) (A:∀j v,j<k->us[j]?=some v->vs[j]?=some v):Dr F (rj F b k us) ρ ρ/\WR T n B0 ρ (rj F b k us) R fr H a w:=by
 have hold:∀f j v,F f j=some v->rj F b k us f j=some v:=by grind[rj]
 have e:∀f j,f≠b->rj F b k us f j=F f j:=by
  intro f j B;unfold rj;rw[cJ (λh=>B h.1)]
 have q:∀G n,M4 F (rj F b k us) G G n n:=λG n=>⟨hold,jM _,λ_ _=>rfl⟩;have r:Dr F (rj F b k us) ρ ρ:=⟨q _ _,λ_=>jM _,λ_ _ _=>rfl,λ_=>jM _,λ_ _ _=>rfl⟩;refine⟨r,⟨⟨?_,?_,h.g.inj,?_,?_,λg x L=>(h.g.J4 g x L).grow (q _ _),?_⟩,h.size,h.defers,h.env.grow r,h.hn,h.lg,h.ag,?_,?_,?_,h.vQ,h.tf,h.Ag⟩⟩
 ·intro f j v p;unfold rj at p
  split at p
  ·rename_i M;obtain⟨rfl,N⟩:=M;rw[cell_of_row w f j vs ty (0,0) z];exact A j v N p
  ·exact h.g.NK f j v p
 ·intro o cs t;obtain⟨C,u,y⟩:=h.g.sN o cs t;exact⟨C,u,y.grow (q _ _)⟩
 ·intro o j t D;rw[e]
  ·exact h.g.gF o j t D
  ·rintro rfl;have:=h.vQ o t;rw[l] at this;cases this
 ·intro f j i;rw[e]
  ·exact h.g.fresh f j i
  ·rintro rfl;have:=xR z;omega
 ·intro O f j v p
  by_cases i:f=b
  ·subst i;exact⟨vs,ty,_,z,.inl rfl,s⟩
  ·rw[e _ _ i] at p;exact h.g.row O f j v p
 ·intro d cs P;obtain⟨u,y,I,vs',E,J,K⟩:=h.box d cs P;exact⟨u,y,I,vs',E,J,K.mono λ_ _ _ h=>h.grow r⟩
 ·intro k' m Q f c sz S;obtain⟨u,y,I,U,J,K⟩:=h.tok k' m Q f c sz S
  grind
 ·intro f j v p
  by_cases i:f=b
  ·subst i;rw[l];simp
  ·rw[e _ _ i] at p;exact h.AG f j v p
def Gd{F:rv}{b k:Nat}{us:List Value}{a j:Nat}(h:a≠b):rj F b k us a j=F a j:=by grind[rj]
end
def uL(P:Program)(t n:Nat)(parts:List (Nat×AV)):Option AV:=
 match zb P t with
 |some (_,sz)=>
  if parts.map (·.1)=List.range n/\parts.all (λp=>p.2.cells.length==sz&&iu p.2)=true/\n*sz<=16777216 then some (.slice .full (parts.map λp=>p.2.norm))else none
 |none=>none
def Oa{α:Type}(parts:List (Nat×α))(n:Nat)(h:parts.map (·.1)=List.range n):parts=(parts.map (·.2)).zipIdx.map λx=>(x.2,x.1):=by
 apply List.ext_getElem
 ·simp
 ·intro i a b
  have c:(parts.map (·.1))[i]?=(List.range n)[i]?:=by rw[h]
  grind
section
variable{P:Program} {T:fx} {n:Nat} {G0:Nat->Nat} {F0:rv} {n0:Nat} {w0:World} {fr:Fr} {H:dM} {a:Act} {w:World}
def N0(w:World){t e:TypeId}{sz:Nat}(h:zb P t=some (e,sz)):(Instr.buildSlice t 0 #[]).run P w=.ok (.slice (some ⟨w.heap.size,0,none⟩) 0 0) (w.alloc (.cells #[] e)):=by
 obtain⟨i,z,hu,hi,a,_⟩:=xf h;simp[Instr.buildSlice,run_underlying hu,sizeOf,typeInfo,hi,Instr.fill,newRow]
 grind
def UN{F:rv}{ρ:Maps}:∀{parts:List (Nat×AV)} {pv:List (Nat×Value)},lY (λ(x:Nat×AV) (y:Nat×Value)=>x.1=y.1/\kI F ρ x.2 y.2) parts pv->(∀p∈parts,iu p.2=true)->lY (k5 F ρ.G ρ.n) ((parts.map λp=>p.2.norm).flatMap AV.cells) ((pv.map (·.2)).flatMap λv=>v.cells.toList)/\∀c∈(parts.map λp=>p.2.norm).flatMap AV.cells,c.k7=true:=by
 intro parts pv h hn
 induction h with
 |nil=>exact⟨.nil,aae⟩|@cons p q ps i d _ e=>
  obtain⟨i1,i2⟩:=e λp f=>hn p (by simp[f]);have a:=hn p aae;have g:=d.2.cells (m_ a);have j:=d.2.F5 (m_ a)
  have b:lY (k5 F ρ.G ρ.n) p.2.norm.cells q.2.cells.toList:=by
   rw[AV.BX a];exact g.G1 AV.ra λ_ _ _ h=>h.ra
  refine⟨?_,?_⟩
  ·exact b.append i1
  ·grind[AV.BX,JT]
def Ip{ρ:Maps}{F:rv}(w:World){t k:Nat}{parts:List (Nat×AV)}{pv:List (Nat×Value)}{r:AV}
  (f:uL P t k parts=some r) (b:lY (λ(x:Nat×AV) (y:Nat×Value)=>x.1=y.1/\kI F ρ x.2 y.2) parts pv):∃l us e sz,r=.slice .full l/\l.length=k/\k<=maxLen/\(∀x∈l,x.cells.length=sz)/\lY (k5 F ρ.G ρ.n) (l.flatMap AV.cells) us/\(∀c∈l.flatMap AV.cells,c.k7=true)/\(Instr.buildSlice t k pv.toArray).run P w=.ok (.slice (some ⟨w.heap.size,0,none⟩) k k) (w.alloc (.cells us.toArray e)):=by
 unfold uL at f
 split at f
 ·rename_i e sz A
  split at f
  ·rename_i L;obtain⟨h,B,M⟩:=L;injection f with f;subst f;obtain⟨i,z,hu,hi,N,O,j,Q,g⟩:=xf A
   have a:∀p∈parts,p.2.cells.length=sz/\iu p.2=true:=by
    intro p u;have:=gR.1 B p u;simpa using this
   have m:parts.length=k:=by have:=congrArg List.length h;simpa using this
   have o:pv.length=k:=by rw[<-b.length];exact m
   have C:pv.map (·.1)=List.range k:=by
    rw[<-h];clear h B a m o
    induction b with
    |nil=>rfl|cons H _ R=>simp only[jc,R,H.1]
   have D:=Oa pv k C
   have I:∀v∈pv.map (·.2),v.cells.size=sz:=by
    intro v S;obtain⟨q,T,rfl⟩:=nj.1 S;obtain⟨p,u,U⟩:=b.mem T;have H:=U.2.cells (m_ (a p u).2);have:=H.length;rw[(a p u).1] at this;simpa using this.symm
   obtain⟨s,d⟩:=UN b λp u=>(a p u).2
   have E:(Instr.buildSlice t k pv.toArray).run P w=.ok (.slice (some ⟨w.heap.size,0,none⟩) k k) (w.alloc (.cells ((pv.map (·.2)).flatMap λv=>v.cells.toList).toArray e)):=by
    rcases Yc k with J|hkpos
    ·subst J;have:pv=[]:=Df o;subst this;exact N0 w A
    ·have K:=fill_flat (sz:=sz) (pv.map (·.2)) 0 [] ((Array.range (k*sz)).map (z.cells[· %z.cells.size]!)).toList I aae (by simp[o])
     rw[<-D] at K;simp only[k9,Vl] at K;exact run_buildSlice w t e k pv.toArray _ i z hu hi N (by rw[j];omega) (by rw[j];have:=Nat.mul_pos hkpos g;omega) (by rw[j];exact K)
   refine⟨parts.map λp=>p.2.norm,_,e,sz,rfl,by simp[m],?_,?_,s,d,E⟩
   ·have:k<=k*sz:=Ur k g;simp only[maxLen];omega
   ·grind[AV.BX]
  ·cases f
 ·cases f
def MU{ρ:Maps}{F:rv}{R:Nat->x0}(h:WR T n w0.heap.size ρ F R fr H a w)(D:Ext w0.heap.size G0 F0 n0 w0 ρ.G F H.length w){t k:Nat}{parts:List (Nat×AV)}{pv:List (Nat×Value)}{r:AV}
  {dst:Option Nat} (A:uL P t k parts=some r) (i:lY (λ(x:Nat×AV) (y:Nat×Value)=>x.1=y.1/\kI F ρ x.2 y.2) parts pv) (E:∀d,dst=some d->d<n):∃v w',(Instr.buildSlice t k pv.toArray).run P w=.ok v w'/\SR T n G0 F0 n0 w0 (fr.put dst r) H (a.put dst v) w':=by
 obtain⟨l,us,e,sz,rfl,B,NI,s,c,f,m⟩:=Ip w A i;have q:=heap_alloc_new w (.cells us.toArray e);obtain⟨z,hw⟩:=(h.alloc (.cells us.toArray e)).freeze (us:=us) (k:=us.length) (h.tf _ (jM _)) (λj=>h.g.fresh _ j (jM _)) q (λu hu=>qd (c.mono λ_ _ _ h=>pj.p h) f u (by simpa using hu)) (by intro j v _ I;simpa using I);refine⟨_,_,m,ρ,_,R,hw.put E (x:=.slice .full l) (v:=.slice (some ⟨w.heap.size,0,none⟩) k k) ?_,?_⟩
 ·have C:=k5.slice (F:=rj F w.heap.size us.length us) (G:=ρ.G) (n:=ρ.n) (tag:=.full) (l:=l) (b:=w.heap.size) (o:=0) (base:=some ⟨w.heap.size,0,none⟩) (cap:=l.length) (sz:=sz)
   (.xU (c.mono λ_ _ _ h=>h.grow z.g)) (IY _ _ _) (λ_=>rfl) s f (jM _) (by rw[B];exact NI) (.inr ⟨rfl,rfl⟩)
  rw[B] at C;exact .p C
 ·exact(D.alloc h.Ag (.cells us.toArray e)).freeze (F':=rj F w.heap.size us.length us) λb j A=>Gd (by have:=h.Ag;omega)
end
def xP(fr:Fr)(tag:Tag)(l:List AV):Bool:=
 match tag with
 |.pw=>false|.full=>true|.loc k g=>g==fr.gN k&&fr.CX k==some l.length
def Dy(tag:Tag)(CX:Nat->Option Nat):Nat->Option Nat:=
 match tag with
 |.loc k _=>kQ CX k none|_=>CX
def grown(fr:Fr)(d:Nat)(tag:Tag)(l m:List AV):Fr:=
 {fr with env:=kQ fr.env d (.slice (.loc d (fr.gN d+1)) (l++m)),CX:=kQ (Dy tag fr.CX) d (some (l.length+m.length)),gN:=kQ fr.gN d (fr.gN d+1)}
def uU(P:Program)(T:fx)(c:Call)(dst:Option Nat)(K:Fr->dM->Prop)(fr:Fr)(H:dM):Prop:=
 match dst,c.args.toList,c.argTypes.toList with
 |some d,[s,x],[t,a]=>
  match zb P t,ev T fr s,ev T fr x with
  |some (_,sz),.slice tag l,.slice _ m=>
   a=t/\ui sz l=true/\ui sz m=true/\l.length+m.length<=uM/\(if xP fr tag l then K (grown fr d tag l m) H else m=[]/\K (fr.put (some d) (.slice .pw l)) H)
  |_,_,_=>False
 |_,_,_=>False
section
variable{P:Program} {T:fx} {n:Nat} {G0:Nat->Nat} {F0:rv} {n0:Nat} {w0:World} {fr:Fr} {H:dM} {a:Act} {w:World}
def NM(w:World){t e:TypeId}{sz:Nat}(h:zb P t=some (e,sz))(ty:TypeId)(base:Option Addr)(len cap:Nat)(a:len<=cap)(x:Value)(f:∃b c,x=.slice b 0 c):(Builtin.append_ #[t,t] ty #[.slice base len cap,x]).run P w=.ok (.slice base len cap) w:=by
 obtain⟨i,z,hu,hi,m,g,j,k,d⟩:=xf h;obtain⟨b,c,rfl⟩:=f;cases b with
 |none=>
  cases base with
  |none=>simp[Builtin.append_,run_underlying hu,sizeOf,typeInfo,hi,Builtin.lenOf,a,Builtin.firstCells]|some l=>simp[Builtin.append_,run_underlying hu,sizeOf,typeInfo,hi,Builtin.lenOf,a,Builtin.firstCells,storeCells]
 |some b=>
  cases base with
  |none=>simp[Builtin.append_,run_underlying hu,sizeOf,typeInfo,hi,Builtin.lenOf,a,Builtin.firstCells,loadCells,loadCellsFrom]|some l=>simp[Builtin.append_,run_underlying hu,sizeOf,typeInfo,hi,Builtin.lenOf,a,Builtin.firstCells,storeCells,loadCells,loadCellsFrom]
theorem Gw(w:World)(t ty e n:TypeId)(i:TypeInfo)(o:P.underlying t=some (.slice e))(hi:P.info? e=some i)
  (g b d:Nat) (cur:Array Value) (hg:w.heap[g]?=some (.cells cur n (0,0)))
  (a:Addr) (m c:Nat) (news:List Value) (p:news.length=m*i.size) (f:∀j u,news[j]?=some u->w.cell? (a.add j)=some u) (q:∀u∈news,u.oneCell'=true)
  (h:b+m<=d) (k:b*i.size+news.length<=cur.size):(Builtin.append_ #[t,t] ty #[.slice (some ⟨g,0,none⟩) b d,.slice (some a) m c]).run P w=.ok (.slice (some ⟨g,0,none⟩) (b+m) d) (w.setRow g (cur.toList.take (b*i.size)++news++cur.toList.drop (b*i.size+news.length)).toArray):=by
 have r:=run_firstCells_some (P:=P) w i.size m a m c news p f;have l:=run_storeCells_at P g (b*i.size) n news 0 cur w hg (by simpa using k) q;simp[Builtin.append_,run_underlying o,sizeOf,typeInfo,hi,Builtin.lenOf,h,r,Addr.add_lit,l]
def WR.rename{ρ:Maps}{F:rv}{R:Nat->x0}{B0:Nat}(h:WR T n B0 ρ F R fr H a w){tag:Tag}{l:List AV}{base:Option Addr}{cap d:Nat}(hd:d<n)
  (hp:k5 F ρ.G ρ.n (.slice .pw l) (.slice base l.length cap)) (E:tag=.full/\cap=l.length\/∃k g,tag=.loc k g/\g=fr.gN k/\fr.CX k=some l.length/\Di ρ k g l base cap):∃ρ' O,ρ'.G=ρ.G/\ρ'.n=ρ.n/\(∀k g,tag=.loc k g->ρ'.A d (fr.gN d+1)=ρ.A k g)/\ρ'.ag d=fr.gN d+1/\WR T n B0 ρ' F O (grown fr d tag l []) H (a.put (some d) (.slice base l.length cap)) w:=by
 let e:Option (Nat×Nat×Nat):=match tag with|.loc k g=>ρ.A k g|_=>none
 let ρ':Maps:={ρ with A:=BU ρ.A d (fr.gN d+1) e,ag:=kQ ρ.ag d (fr.gN d+1)}
 let O:Nat->x0:=match e with|some (b,_,_)=>kQ R b (.arr d)|none=>R
 have t:Dr F F ρ ρ':=by
  refine⟨.refl,λ_=>jM _,λ_ _ _=>rfl,λk=>?_,λk g hg=>?_⟩
  ·show ρ.ag k<=kQ ρ.ag d (fr.gN d+1) k;unfold kQ
   split
   ·rename_i P;subst P;rw[h.ag];omega
   ·exact jM _
  ·show BU ρ.A d (fr.gN d+1) e k g=ρ.A k g;unfold BU;rw[cJ];rintro⟨rfl,rfl⟩;rw[h.ag] at hg;omega
 have f:∀b c sz,e=some (b,c,sz)->∃k g,tag=.loc k g/\g=fr.gN k/\fr.CX k=some l.length/\ρ.A k (fr.gN k)=some (b,c,sz)/\base=some ⟨b,0,none⟩/\cap=c/\∀x∈l,x.cells.length=sz:=by
  intro b c sz i;rcases E with⟨rfl,_⟩|⟨k,g,rfl,rfl,u,I⟩
  ·exact absurd i aav
  ·refine⟨k,_,rfl,rfl,u,i,?_⟩;unfold Di at I;have S:ρ.A k (fr.gN k)=some (b,c,sz):=i;rw[S] at I;exact I
 have y:∀C,(∀k,R C≠ .arr k)->O C=R C:=by
  intro C U;show(match e with|some (b,_,_)=>kQ R b (.arr d)|none=>R) C=R C;cases i:e with
  |none=>rfl|some p=>
   obtain⟨b,c,sz⟩:=p;obtain⟨k,g,_,_,u,q,_⟩:=f b c sz i;have D:=(h.tok k _ u b c sz q).2.1;simp only[kQ];rw[cJ];rintro rfl;exact U k D
 have J:Di ρ' d (fr.gN d+1) l base cap:=by grind[Di,BU]
 refine⟨ρ',O,rfl,rfl,?_,by show kQ ρ.ag d (fr.gN d+1) d=_;simp[kQ],⟨⟨h.g.NK,h.g.sN,h.g.inj,h.g.gF,h.g.fresh,h.g.J4,h.g.row⟩,by rw[Le];exact h.size,by rw[put_defers];exact h.defers,?_,h.hn,h.lg,?_,?_,?_,?_,?_,?_,h.Ag⟩⟩
 ·rintro k g rfl;show BU ρ.A d (fr.gN d+1) e d (fr.gN d+1)=ρ.A k g;simp[BU,e]
 ·have h0:=(h.env.grow t).put (d:=some d) (by intro z he;injection he with he;subst he;rw[h.size];exact hd) (x:=.slice (.loc d (fr.gN d+1)) l) (v:=.slice base l.length cap)
   (.cell (.loc (hp.grow t.g) (by show _<=kQ ρ.ag d (fr.gN d+1) d;simp[kQ]) J))
  simp only[grown,Dn];exact h0
 ·intro k;show kQ ρ.ag d (fr.gN d+1) k=kQ fr.gN d (fr.gN d+1) k;unfold kQ
  split
  ·rfl
  ·exact h.ag k
 ·intro z cs V;obtain⟨h1,h2,h3,vs,ty,h4,h5⟩:=h.box z cs V;exact⟨h1,by rw[y _ (by intro k;show R (ρ.L z (fr.gen z))≠_;rw[h2];simp)];exact h2,h3,vs,ty,h4,h5.mono λ_ _ _ h=>h.grow t⟩
 ·intro k m r b c sz i;simp only[grown,kQ] at r
  by_cases s:k=d
  ·subst s;simp only[if_true,o7,oH,zq] at r;subst r
   have K:(grown fr k tag l []).gN k=fr.gN k+1:=by simp[grown,kQ]
   rw[K] at i
   have Q:ρ'.A k (fr.gN k+1)=e:=by show BU ρ.A k (fr.gN k+1) e k (fr.gN k+1)=e;simp[BU]
   rw[Q] at i;obtain⟨k2,g2,_,_,u,q,ah,ai,ak⟩:=f b c sz i;obtain⟨K,Q,W,X,M,Y⟩:=h.tok k2 _ u b c sz q;refine⟨K,?_,W,X,M,Y⟩;show(match e with|some (b,_,_)=>kQ R b (.arr k)|none=>R) b=.arr k;rw[i];simp[kQ]
  ·simp only[cJ s] at r
   have K:(grown fr d tag l []).gN k=fr.gN k:=by simp[grown,kQ,s]
   rw[K] at i
   have Q:ρ'.A k (fr.gN k)=ρ.A k (fr.gN k):=by show BU ρ.A d (fr.gN d+1) e k (fr.gN k)=_;simp[BU,s]
   rw[Q] at i
   have N:fr.CX k=some m/\∀k2 g2,tag=.loc k2 g2->k≠k2:=by
    unfold Dy at r
    split at r
    ·rename_i k2 g2;simp only[kQ] at r
     split at r
     ·cases r
     ·rename_i Z;refine⟨r,λk3 g3 he=>?_⟩;injection he with aa an;subst aa;exact Z
    ·rename_i ab;exact⟨r,λk3 g3 he=>absurd he (ab k3 g3)⟩
   obtain⟨W,M,Y,ad,e6,e7⟩:=h.tok k m N.1 b c sz i;refine⟨W,?_,Y,ad,e6,e7⟩;show(match e with|some (b,_,_)=>kQ R b (.arr d)|none=>R) b=.arr k;cases ae:e with
   |none=>exact M|some p=>
    obtain⟨b3,c3,B⟩:=p;obtain⟨k2,g2,af,_,u,q,_⟩:=f b3 c3 B ae;have D:=(h.tok k2 _ u b3 c3 B q).2.1;simp only[kQ];rw[cJ]
    ·exact M
    ·rintro rfl;rw[M] at D;injection D with D;exact N.2 k2 g2 af D
 ·intro b j v hf;intro z;have P:=h.AG b j v hf z;show(match e with|some (b,_,_)=>kQ R b (.arr d)|none=>R) b≠ .box z;cases i:e with
  |none=>exact P|some p=>
   obtain⟨b3,c3,B⟩:=p;simp only[kQ]
   split
   ·simp
   ·exact P
 ·intro o I;have:=h.vQ o I;rw[y _ (by intro k;show R (ρ.G o)≠_;rw[this];simp)];exact this
 ·intro b hb;have:=h.tf b hb;rw[y b (by rw[this];simp)];exact this
end
end Go.tq
namespace Go.tq
open Go
theorem RH{α:Type}(f:Nat->α)(i:Nat)(x y:α):kQ (kQ f i x) i y=kQ f i y:=by grind[kQ]
theorem Jq{α:Type}(f:Nat->α)(i j:Nat)(x:α)(h:j≠i):kQ f i x j=f j:=by simp[kQ,h]
def FY{a:Array Value}(h:∀u∈a.toList,u.oneCell'=true)(b:0<a.size)(k:Nat):∀u∈(Builtin.zeroCells a k).toList,u.oneCell'=true:=by
 intro u hu;unfold Builtin.zeroCells at hu;simp only[UP,nj] at hu;obtain⟨i,_,rfl⟩:=hu;have c:i%a.size<a.size:=Vx _ b
 grind
def SV{P:Program}{t e:TypeId}{sz:Nat}(h:zb P t=some (e,sz)){i:TypeInfo}{z:Value}(hi:P.info? e=some i)(a:i.zero=some z):∀u∈z.cells.toList,u.oneCell'=true:=by grind[zb]
section
variable{P:Program} {T:fx} {n B0:Nat} {ρ:Maps} {F:rv} {R:Nat->x0} {fr:Fr} {H:dM} {a:Act} {w:World}
def WR.extend(h:WR T n B0 ρ F R fr H a w){d p q b c sz:Nat}{news:List Value}(ht:fr.CX d=some p)(hA:ρ.A d (fr.gN d)=some (b,c,sz))(hq:news.length=q*sz)(I:p+q<=c)(z:∀u∈news,u.oneCell'=true)
  {cur:Array Value} {ty:TypeId} (O:w.heap[b]?=some (.cells cur ty (0,0))):∃F',Dr F F' ρ ρ/\(∀e j,e≠b->F' e j=F e j)/\(∀(j:Nat) (v:Value),news[j]?=some v->F' b (p*sz+j)=some v)/\WR T n B0 ρ F' R {fr with CX:=kQ fr.CX d (some (p+q))} H a (w.setRow b (cur.toList.take (p*sz)++news++cur.toList.drop (p*sz+news.length)).toArray):=by
 obtain⟨h1,h2,h3,ae,⟨vs,r,P,h5,J⟩,h6⟩:=h.tok d p ht b c sz hA;rw[O] at P;injection P with P;injection P with e1 e2;subst e1;subst e2;have Q:(p+q)*sz<=c*sz:=NX _ I;rw[zy] at Q
 have S:p*sz<=cur.toList.length:=aaV
 let F':rv:=λe j=>if e=b/\p*sz<=j/\j<p*sz+news.length then news[j-p*sz]?else F e j
 have hold:∀e j v,F e j=some v->F' e j=some v:=by
  intro e j v l;show(if e=b/\p*sz<=j/\j<p*sz+news.length then news[j-p*sz]?else F e j)=some v;rw[cJ]
  ·exact l
  ·rintro⟨rfl,E,_⟩;rw[h6 j E] at l;cases l
 have f:∀e j,e≠b->F' e j=F e j:=by
  intro e j s;show(if e=b/\p*sz<=j/\j<p*sz+news.length then news[j-p*sz]?else F e j)=F e j;rw[cJ (λh=>s h.1)]
 have K:∀(j:Nat) (v:Value),news[j]?=some v->F' b (p*sz+j)=some v:=by
  intro j v hv;have E:=(qR.1 hv).1;show(if b=b/\p*sz<=p*sz+j/\p*sz+j<p*sz+news.length then news[p*sz+j-p*sz]?else F b (p*sz+j))=some v;rw[cL ⟨rfl,Zb,Zb⟩,Nat.add_sub_cancel_left];exact hv
 have B:∀G n,M4 F F' G G n n:=λG n=>⟨hold,jM _,λ_ _=>rfl⟩;have C:Dr F F' ρ ρ:=⟨B _ _,λ_=>jM _,λ_ _ _=>rfl,λ_=>jM _,λ_ _ _=>rfl⟩
 have t:∀e,R e≠ .arr d->e≠b:=by rintro e i rfl;exact i h2
 have L:OD (cur.toList.take (p*sz)++news++cur.toList.drop (p*sz+news.length)).toArray:=by
  intro u hu;simp only[tA] at hu;rcases hu with(hu|hu)|hu
  ·exact J u (MG hu)
  ·exact z u hu
  ·exact J u (QH hu)
 have y:=setRow_heap w b cur (cur.toList.take (p*sz)++news++cur.toList.drop (p*sz+news.length)).toArray ty (0,0) O;refine⟨F',C,f,K,⟨⟨?_,?_,h.g.inj,?_,?_,λg x hx=>(h.g.J4 g x hx).grow (B _ _),?_⟩,h.size,h.defers,h.env.grow C,h.hn,h.lg,h.ag,?_,?_,?_,h.vQ,?_,by rw[size_setRow];exact h.Ag⟩⟩
 ·intro e j v l
  by_cases i:e=b
  ·subst i;rw[cell_of_row _ e j _ ty (0,0) y];simp only[adB];change (if e=e/\p*sz<=j/\j<p*sz+news.length then news[j-p*sz]?else F e j)=some v at l
   split at l
   ·rename_i hc;rw[ml,xo (by rw[Kn];omega),Kn,R7 S,uj Zb];exact l
   ·rename_i hc
    have E:j<p*sz:=by
     rcases zj j (p*sz)with h'|h'
     ·exact h'
     ·rw[h6 j h'] at l;cases l
    have:=h.g.NK e j v l;rw[cell_of_row w e j cur ty (0,0) O] at this;rw[ml,uj (by rw[Kn];omega),VG,cL E];simpa using this
  ·rw[cell_setRow_other _ _ _ _ _ i];rw[f _ _ i] at l;exact h.g.NK e j v l
 ·intro o cs M;obtain⟨U,g1,g2⟩:=h.g.sN o cs M;refine⟨U,?_,g2.grow (B _ _)⟩;rw[setRow_other]
  ·exact g1
  ·exact t _ (by rw[h.vQ o (qR.1 M).1];simp)
 ·intro o j M V;rw[f]
  ·exact h.g.gF o j M V
  ·exact t _ (by rw[h.vQ o M];simp)
 ·intro e j i;rw[size_setRow] at i;rw[f]
  ·exact h.g.fresh e j i
  ·rintro rfl;have:=xR O;omega
 ·intro hT e j v l
  by_cases i:e=b
  ·subst i;exact⟨_,ty,_,y,.inl rfl,L⟩
  ·rw[f _ _ i] at l;obtain⟨W,X,Y,g1,g2⟩:=h.g.row hT e j v l;exact⟨W,X,Y,by rw[setRow_other _ _ _ _ i];exact g1,g2⟩
 ·intro d' cs Z;obtain⟨g1,g2,g3,vs',r,g4,g5⟩:=h.box d' cs Z;refine⟨g1,g2,g3,vs',r,?_,g5.mono λ_ _ _ h=>h.grow C⟩;rw[setRow_other]
  ·exact g4
  ·exact t _ (by rw[g2];simp)
 ·intro k m N e c' aa ab;simp only[kQ] at N
  by_cases D:k=d
  ·subst D;simp only[if_true,zq] at N;subst N
   grind
  ·simp only[cJ D] at N;obtain⟨g1,g2,g3,ad,⟨vs',r,g4,g5⟩,g6⟩:=h.tok k m N e c' aa ab;have s:e≠b:=t _ (by rw[g2];simp[D]);refine⟨g1,g2,g3,ad,⟨vs',r,by rw[setRow_other _ _ _ _ s];exact g4,g5⟩,λj E=>?_⟩;rw[f _ _ s];exact g6 j E
 ·intro e j v l
  by_cases i:e=b
  ·subst i;rw[h2];simp
  ·rw[f _ _ i] at l;exact h.AG e j v l
 ·intro e i;rw[size_setRow] at i;exact h.tf e i
def WR.Wo(h:WR T n B0 ρ F R fr H a w){b:Nat}{vs:Array Value}{ty:TypeId}{us:List Value}{c sz:Nat}{tag:Tag}{l m:List AV}{d:Nat}(hd:d<n)(hb:B0<=b)(p:R b=.free)
  (hF:∀j,F b j=none) (U:w.heap[b]?=some (.cells vs ty (0,0))) (y:OD vs) (V:vs.size=c*sz) (W:0<l.length+m.length) (hp:l.length+m.length<=c) (hc:c<=maxLen) (ae:us.length=(l.length+m.length)*sz)
  (E:∀(j:Nat) (v:Value),us[j]?=some v->vs[j]?=some v) (s:kR F ρ.G ρ.n ((l++m).flatMap AV.cells) us) (I:∀x∈(l++m).flatMap AV.cells,x.k7=true) (J:∀x∈l++m,x.cells.length=sz):∃ρ' K,ρ'.G=ρ.G/\WR T n B0 ρ' (rj F b us.length us) K (grown fr d tag l m) H (a.put (some d) (.slice (some ⟨b,0,none⟩) (l.length+m.length) c)) w:=by
 obtain⟨z,M⟩:=h.freeze (k:=us.length) (us:=us) p hF U y (λj v _ hv=>E j v hv)
 let ρ':Maps:={ρ with A:=BU ρ.A d (fr.gN d+1) (some (b,c,sz)),ag:=kQ ρ.ag d (fr.gN d+1)}
 let K:Nat->x0:=kQ R b (.arr d)
 have t:Dr F (rj F b us.length us) ρ ρ':=by
  refine⟨z.g,λ_=>jM _,λ_ _ _=>rfl,λk=>?_,λk g hg=>?_⟩
  ·show ρ.ag k<=kQ ρ.ag d (fr.gN d+1) k;unfold kQ
   split
   ·rename_i h';subst h';rw[h.ag];omega
   ·exact jM _
  ·show BU ρ.A d (fr.gN d+1) (some (b,c,sz)) k g=ρ.A k g;unfold BU;rw[cJ];rintro⟨rfl,rfl⟩;rw[h.ag] at hg;omega
 have B:Dr (rj F b us.length us) (rj F b us.length us) ρ ρ':=⟨.refl,t.lg,t.L,t.ag,t.A⟩
 have q:∀f,R f≠ .free->K f=R f:=by
  intro f i;show kQ R b (.arr d) f=R f;unfold kQ;rw[cJ];rintro rfl;exact i p
 have af:∀f,R f≠ .free->f≠b:=by rintro f i rfl;exact i p
 refine⟨ρ',K,rfl,⟨M.g,by rw[Le];exact h.size,by rw[put_defers];exact h.defers,?_,h.hn,h.lg,?_,?_,?_,?_,?_,?_,h.Ag⟩⟩
 ·have N:kI (rj F b us.length us) ρ' (.slice (.loc d (fr.gN d+1)) (l++m)) (.slice (some ⟨b,0,none⟩) (l.length+m.length) c):=by
   have hlen:(l++m).length=l.length+m.length:=oG
   have O:=k5.slice (F:=rj F b us.length us) (G:=ρ'.G) (n:=ρ'.n) (tag:=.pw) (l:=l++m) (b:=b) (o:=0) (base:=some ⟨b,0,none⟩) (cap:=c) (sz:=sz)
    (s.grow z.g) (IY F b us) (λ_=>rfl) J I Zb hc (.inl rfl)
   rw[hlen] at O;rw[<-hlen];refine .cell (.loc (by rw[hlen];exact O) (by show _<=kQ ρ.ag d (fr.gN d+1) d;simp[kQ]) ?_);unfold Di
   have e:ρ'.A d (fr.gN d+1)=some (b,c,sz):=by show BU ρ.A d (fr.gN d+1) (some (b,c,sz)) d (fr.gN d+1)=_;simp[BU]
   rw[e];exact⟨rfl,rfl,J⟩
  have X:=(M.env.grow B).put (d:=some d) (by intro P he;injection he with he;subst he;rw[h.size];exact hd) N;exact X
 ·intro k;show kQ ρ.ag d (fr.gN d+1) k=kQ fr.gN d (fr.gN d+1) k;unfold kQ
  split
  ·rfl
  ·exact h.ag k
 ·intro P cs Y;obtain⟨X,h2,h3,vs',Z,h4,h5⟩:=M.box P cs Y;exact⟨X,by rw[q _ (by show R (ρ.L P (fr.gen P))≠_;rw[h2];simp)];exact h2,h3,vs',Z,h4,h5.mono λ_ _ _ h=>h.grow B⟩
 ·intro k m' r f c' aa C;simp only[grown,kQ] at r
  by_cases u:k=d
  ·subst u;simp only[if_true,zq] at r;subst r
   have Q:(grown fr k tag l m).gN k=fr.gN k+1:=by simp[grown,kQ]
   rw[Q] at C
   have D:ρ'.A k (fr.gN k+1)=some (b,c,sz):=by show BU ρ.A k (fr.gN k+1) (some (b,c,sz)) k (fr.gN k+1)=_;simp[BU]
   rw[D] at C;injection C with C;injection C with Q D;injection D with D e3;subst Q;subst D;subst e3;refine⟨hb,by show kQ R b (.arr k) b=.arr k;simp[kQ],⟨W,hp⟩,hc,⟨vs,ty,U,V,y⟩,λj hj=>?_⟩;show(if b=b/\j<us.length then us[j]?else F b j)=none;rw[cJ Zb];exact hF j
  ·simp only[cJ u] at r
   have Q:(grown fr d tag l m).gN k=fr.gN k:=by simp[grown,kQ,u]
   rw[Q] at C
   have D:ρ'.A k (fr.gN k)=ρ.A k (fr.gN k):=by show BU ρ.A d (fr.gN d+1) _ k (fr.gN k)=_;simp[BU,u]
   rw[D] at C
   have ab:fr.CX k=some m':=by
    unfold Dy at r
    split at r
    ·simp only[kQ] at r
     split at r
     ·cases r
     ·exact r
    ·exact r
   obtain⟨e3,e4,e5,ad,e6,e7⟩:=M.tok k m' ab f c' aa C;exact⟨e3,by rw[q _ (by rw[e4];simp)];exact e4,e5,ad,e6,e7⟩
 ·intro f j v hf
  by_cases i:f=b
  ·subst i;intro P;show kQ R f (.arr d) f≠_;simp[kQ]
  ·have e:K f=R f:=by show kQ R b (.arr d) f=R f;simp[kQ,i]
   rw[e];exact M.AG f j v hf
 ·intro o ho;have:=h.vQ o ho;rw[q _ (by show R (ρ.G o)≠_;rw[this];simp)];exact this
 ·intro f i
  have S:f≠b:=by rintro rfl;have:=xR U;omega
  show kQ R b (.arr d) f=.free;simp only[kQ,cJ S];exact h.tf f i
end
section
variable{P:Program} {T:fx} {n:Nat} {G0:Nat->Nat} {F0:rv} {n0:Nat} {w0:World} {fr:Fr} {H:dM} {a:Act} {w:World}
def MK(w:World){t e:TypeId}{sz:Nat}(n:zb P t=some (e,sz))(ty:TypeId)(base:Option Addr)(a d:Nat)(f:List Value)(holds:f.length=a*sz)
  (B:base=none->a=0/\d=0) (C:∀k,base=some k->∀j v,f[j]?=some v->w.cell? (k.add j)=some v)
  (k:Addr) (m c:Nat) (news:List Value) (p:news.length=m*sz) (hn:∀j v,news[j]?=some v->w.cell? (k.add j)=some v) (l:d<a+m) (o:a+m<=uM):∃cap rest,a+m<=cap/\cap<=maxLen/\(∀u∈rest,u.oneCell'=true)/\(f++news++rest).length=cap*sz/\(Builtin.append_ #[t,t] ty #[.slice base a d,.slice (some k) m c]).run P w=.ok (.slice (some ⟨w.heap.size,0,none⟩) (a+m) cap) (w.drew.alloc (.cells (f++news++rest).toArray e)):=by
 obtain⟨i,z,hu,hi,q,r,s,x,A⟩:=xf n;subst s;have h:a+m<=1099511627776:=o
 have g:(a+m)*i.bytes<=140737488355328:=by
  have:=BA h x;omega
 have NI:a+m<=maxLen:=by simp only[maxLen];omega
 have y:=grownCap_ge w (a+m) d e;have hle:=grownCap_le_maxLen w (a+m) d e NI;refine⟨grownCap w (a+m) d e,(Builtin.zeroCells z.cells (grownCap w (a+m) d e-(a+m))).toList,y,hle,FY (SV n hi q) Zb _,?_,?_⟩
 ·simp only[oG,ZZ,size_zeroCells,r,holds,p,<-zy]
  congr 1
  omega
 ·have D:(f++news++(Builtin.zeroCells z.cells (grownCap w (a+m) d e-(a+m))).toList).toArray=f.toArray++news.toArray++Builtin.zeroCells z.cells (grownCap w (a+m) d e-(a+m)):=by
   simp
  rw[D];cases base with
  |some b=>
   exact run_append_grow w t ty e i z hu hi q b a d f holds (C b rfl) k m c news p hn l Zb (growslice_fits l g)
  |none=>
   obtain⟨rfl,rfl⟩:=B rfl;have:f=[]:=Df (by simpa using holds);subst this;simp only[sZ] at l g h|-;have:=run_append_nil (P:=P) w t ty e i z hu hi q k m c news p hn Zb Zb Zb;simpa using this
structure Ui (P:Program) (w:World) (t u e:TypeId) (sz k:Nat) (x:Value) (news:List Value) (ty:TypeId):Prop where
 none:k=0->∀(base:Option Addr) (len cap:Nat),len<=cap->(Builtin.append_ #[t,u] ty #[.slice base len cap,x]).run P w=.ok (.slice base len cap) w
 room:0<k->∀(g sLen sCap:Nat) (cur:Array Value) (e':TypeId),w.heap[g]?=some (.cells cur e' (0,0))->sLen+k<=sCap->sLen*sz+news.length<=cur.size->(Builtin.append_ #[t,u] ty #[.slice (some ⟨g,0,.none⟩) sLen sCap,x]).run P w=.ok (.slice (some ⟨g,0,.none⟩) (sLen+k) sCap) (w.setRow g (cur.toList.take (sLen*sz)++news++cur.toList.drop (sLen*sz+news.length)).toArray)
 grow:0<k->∀(base:Option Addr) (sLen sCap:Nat) (olds:List Value),olds.length=sLen*sz->(base=.none->sLen=0/\sCap=0)->(∀ad,base=some ad->∀j v,olds[j]?=some v->w.cell? (ad.add j)=some v)->sCap<sLen+k->sLen+k<=uM->∃cap rest,sLen+k<=cap/\cap<=maxLen/\(∀u∈rest,u.oneCell'=true)/\(olds++news++rest).length=cap*sz/\(Builtin.append_ #[t,u] ty #[.slice base sLen sCap,x]).run P w=.ok (.slice (some ⟨w.heap.size,0,.none⟩) (sLen+k) cap) (w.drew.alloc (.cells (olds++news++rest).toArray e))
def Nr{ρ:Maps}{F:rv}{R:Nat->x0}(h:WR T n w0.heap.size ρ F R fr H a w)(hx:Ext w0.heap.size G0 F0 n0 w0 ρ.G F H.length w){d:Nat}{t u e ty:TypeId}{sz:Nat}{K:Fr->dM->Prop}{tag:Tag}{l m:List AV}{sv xv:Value}{B:List Value}
  (aD:zb P t=some (e,sz)) (aE:kI F ρ (.slice tag l) sv) (aF:ui sz l=true) (src:Ui P w t u e sz m.length xv B ty) (r:kR F ρ.G ρ.n (m.flatMap AV.cells) B) (s:∀y∈m.flatMap AV.cells,y.k7=true)
  (M:∀y∈m,y.cells.length=sz) (ak:l.length+m.length<=uM) (N:d<n)
  (hK:if xP fr tag l then K (grown fr d tag l m) H else m=[]/\K (fr.put (some d) (.slice .pw l)) H):∃v w' fr' H',(Builtin.append_ #[t,u] ty #[sv,xv]).run P w=.ok v w'/\K fr' H'/\SR T n G0 F0 n0 w0 fr' H' (a.put (some d) v) w':=by
 obtain⟨base,cap,b,o,aT,vs,aG,f,ae,an⟩:=yV aE;rw[aG];obtain⟨i,z,hu,hi,hz,aU,aV,aW,aR⟩:=xf aD;have C:=DW aF f.sz;have D:k5 F ρ.G ρ.n (.slice .pw l) (.slice base l.length cap):=.slice f.cells f.has f.base C f.F5 f.Lr f.NI (.inl rfl)
 split at hK
 ·rename_i J
  have O:tag=.full/\cap=l.length\/∃k g,tag=.loc k g/\g=fr.gN k/\fr.CX k=some l.length/\Di ρ k g l base cap:=by
   unfold xP at J
   split at J
   ·cases J
   ·exact .inl ⟨rfl,ae rfl⟩
   ·rename_i k g;simp only[ew,beq_iff_eq] at J;exact .inr ⟨k,g,rfl,J.1,J.2,(an k g rfl).2⟩
  by_cases hm:m=[]
  ·subst hm;obtain⟨ρ',R',hG,_,_,_,hw⟩:=h.rename N D O;refine⟨_,_,_,_,src.none rfl _ _ _ f.Lr,hK,ρ',F,R',?_,by rw[hG];exact hx⟩;exact hw
  ·have Q:B.length=m.length*sz:=by rw[<-r.length,Ax M]
   have I:vs.length=l.length*sz:=by rw[<-f.cells.length,Ax C]
   have S:0<m.length:=XC.2 hm
   by_cases E:l.length+m.length<=cap
   ·--in place
    rcases O with⟨rfl,hc⟩|⟨k,g,rfl,hg,ht,Y⟩
    ·omega
    ·have L:=Y;unfold Di at L;cases W:ρ.A k g with
     |none=>rw[W] at L;simp only at L;omega
     |some p=>
      obtain⟨b3,c3,x⟩:=p;rw[W] at L;simp only at L;obtain⟨rfl,rfl,aH⟩:=L;rw[hg] at W;obtain⟨t1,t2,t3,aX,⟨cur,aI,t4,t5,aY⟩,t6⟩:=h.tok k _ ht b3 cap x W;have af:∀u∈B,u.oneCell'=true:=qd (r.DL.mono λ_ _ _ h=>pj.p h) s
      have Z:l≠[]:=by rintro rfl;exact absurd t3.1 aae
      have ao:x=sz:=by
       cases l with
       |nil=>exact absurd rfl Z|cons y ys=>rw[<-aH y aae,C y aae]
      subst ao;obtain⟨ρ',R',hG,aq,ar,aw,hw⟩:=h.rename N D (tag:=.loc k g) (.inr ⟨k,g,rfl,hg,ht,Y⟩)
      have ah:ρ'.A d ((grown fr d (.loc k g) l []).gN d)=some (b3,cap,x):=by
       have e:(grown fr d (.loc k g) l []).gN d=fr.gN d+1:=by simp[grown,kQ]
       rw[e,ar k g rfl,hg];exact W
      have ax:(grown fr d (.loc k g) l []).CX d=some l.length:=by simp[grown,kQ]
      obtain⟨F',ay,X,az,aJ⟩:=hw.extend ax ah Q E af t4
      have aK:b=b3/\o=0:=by
       have:=f.base Z;injection this with this;injection this with e1 e2;exact⟨e1.symm,e2.symm⟩
      obtain⟨rfl,rfl⟩:=aK
      have U:=src.room S b l.length cap cur aI t4 E (by
       rw[Q,<-zy,t5];exact NX _ E)
      have aA:kI F' ρ' (.slice (.loc d (fr.gN d+1)) (l++m)) (.slice (some ⟨b,0,none⟩) (l.length+m.length) cap):=by
       have hlen:(l++m).length=l.length+m.length:=oG
       have aB:F'.has b 0 (vs++B):=by
        intro q v V;rcases zj q vs.length with hq|hq
        ·rw[uj hq] at V;exact ay.g.mF _ _ _ (f.has q v V)
        ·rw[xo hq] at V;have:=az _ v V;rw[I] at hq this;rw[show l.length*x+(q-l.length*x)=0+q by omega] at this;exact this
       have aa:∀y∈l++m,y.cells.length=x:=by
        intro y hy;rcases tA.1 hy with hy|hy
        ·exact C y hy
        ·exact M y hy
       have aL:=k5.slice (F:=F') (G:=ρ'.G) (n:=ρ'.n) (tag:=.pw) (l:=l++m) (b:=b) (o:=0) (base:=some ⟨b,0,none⟩) (cap:=cap) (sz:=x) (vs:=vs++B)
        (by
         rw[X1,hG,aq];have aC:=ay.g;rw[hG,aq] at aC
         exact(f.cells.append r).grow aC) aB (λ_=>rfl) aa (by
         intro y hy;rw[X1] at hy;rcases tA.1 hy with hy|hy
         ·exact f.F5 y hy
         ·exact s y hy) Zb f.NI (.inl rfl)
       rw[<-hlen];refine .cell (.loc aL (by rw[aw];exact jM _) ?_);unfold Di
       have e:ρ'.A d (fr.gN d+1)=some (b,cap,x):=by rw[ar k g rfl,hg];exact W
       rw[e];exact⟨rfl,rfl,aa⟩
      have ab:=aJ.put (d:=some d) (λ_ hh=>by cases hh;exact N) aA;refine⟨_,_,_,_,U,hK,ρ',F',R',?_,?_⟩
      ·have e1:({(grown fr d (.loc k g) l [])with CX:=kQ (grown fr d (.loc k g) l []).CX d (some (l.length+m.length))}:Fr).put (some d) (.slice (.loc d (fr.gN d+1)) (l++m))=grown fr d (.loc k g) l m:=by
        simp only[grown,Fr.put,RH]
       have e2:(a.put (some d) (.slice (some ⟨b,0,none⟩) l.length cap)).put (some d) (.slice (some ⟨b,0,none⟩) (l.length+m.length) cap)=a.put (some d) (.slice (some ⟨b,0,none⟩) (l.length+m.length) cap):=by
        simp[Act.put]
       rw[e1,e2] at ab;exact ab
      ·rw[hG];exact(hx.setRow (.inl t1) _).freeze λb' j aM=>X b' j Zb
   ·--a new row
    have aN:base=none->l.length=0/\cap=0:=by
     rintro rfl
     have ai:l=[]:=by
      rcases Z8 l with h'|⟨_,_,h'⟩
      ·exact h'
      ·have:=f.base (by rw[h'];simp);cases this
     subst ai;refine⟨rfl,?_⟩;rcases O with⟨_,hc⟩|⟨k,g,rfl,hg,ht,Y⟩
     ·simpa using hc
     ·unfold Di at Y;cases W:ρ.A k g with
      |none=>rw[W] at Y;simpa using Y
      |some p=>
       obtain⟨b3,c3,x⟩:=p;rw[W] at Y;cases Y.1
    have aO:∀ad,base=some ad->∀(j:Nat) (v:Value),vs[j]?=some v->w.cell? (ad.add j)=some v:=by
     intro ad aP j v V
     have ai:l≠[]:=by
      rintro rfl;have:vs=[]:=Df (by rw[I];simp);subst this;simp at V
     have:=f.base ai;rw[aP] at this;injection this with this;subst this;rw[Addr.add_lit];exact h.g.NK b _ v (f.has j v V)
    obtain⟨c',rest,r1,r2,r0,r3,U⟩:=src.grow S base l.length cap vs I aN aO Zb ak;have aQ:=h.drew.alloc (.cells (vs++B++rest).toArray e);have aS:w.drew.heap.size=w.heap.size:=rfl
    obtain⟨ρ',R',hG,hw⟩:=aQ.Wo (b:=w.heap.size) (us:=vs++B) (c:=c') (sz:=sz) (tag:=tag) (l:=l) (m:=m) N h.Ag (h.tf _ (jM _)) (λj=>h.g.fresh _ j (jM _))
     (heap_alloc_new w.drew _) (by
      intro u hu;simp only[tA] at hu;rcases hu with(hu|hu)|hu
      ·exact qd (f.cells.DL.mono λ_ _ _ h=>pj.p h) f.F5 u hu
      ·exact qd (r.DL.mono λ_ _ _ h=>pj.p h) s u hu
      ·exact r0 u hu) (by simpa using r3) Zb r1 r2 (by rw[oG,I,Q,zy]) (by
      intro j v V;have hj:=(qR.1 V).1;simp only[adB];rw[uj hj]
      exact V) (by rw[X1];exact f.cells.append r) (by
      intro y hy;rw[X1] at hy;rcases tA.1 hy with hy|hy
      ·exact f.F5 y hy
      ·exact s y hy) (by
      intro y hy;rcases tA.1 hy with hy|hy
      ·exact C y hy
      ·exact M y hy)
    refine⟨_,_,_,_,U,hK,ρ',_,R',hw,?_⟩;rw[hG];exact((hx.drew.alloc h.Ag _).freeze λb' j aM=>Gd (by have:=h.Ag;omega))
 ·obtain⟨rfl,hK⟩:=hK;refine⟨_,_,_,_,src.none rfl _ _ _ f.Lr,hK,ρ,F,R,?_,hx⟩;exact h.put (λ_ hh=>by cases hh;exact N) (.p D)
def Sy{t e:TypeId}{sz:Nat}(f:zb P t=some (e,sz))(ty:TypeId){base:Option Addr}{m cap b o:Nat}{news:List Value}(y:0<m->base=some ⟨b,o,none⟩)(A:news.length=m*sz)
  (hn:∀j v,news[j]?=some v->w.cell? ((⟨b,o,none⟩:Addr).add j)=some v) (H:∀u∈news,u.oneCell'=true):Ui P w t t e sz m (.slice base m cap) news ty where
 none B a len h C:=NM w f ty a len h C _ ⟨base,cap,by rw[B]⟩
 room r g c d cur I hg n s:=by
  obtain⟨i,z,hu,hi,J,D,E,F,x⟩:=xf f
  grind[Gw]
 grow r a c d k holds p G q l:=by
  rw[y r];exact MK w f ty a c d k holds p G ⟨b,o,.none⟩ m cap news A hn q l
def R0{ρ:Maps}{F:rv}{R:Nat->x0}(h:WR T n w0.heap.size ρ F R fr H a w)(Q:Ext w0.heap.size G0 F0 n0 w0 ρ.G F H.length w){c:Call}{dst:Option Nat}{ty:TypeId}{K:Fr->dM->Prop}
  (k:uU P T c dst K fr H) (S:∀d,dst=some d->d<n) (r:∀x∈c.args.toList,oX x=true):∃v w' fr' H',(Builtin.append_ c.argTypes ty (c.args.map a.eval)).run P w=.ok v w'/\K fr' H'/\SR T n G0 F0 n0 w0 fr' H' (a.put dst v) w':=by
 unfold uU at k
 split at k
 ·rename_i d s x t U i u;have C:=S d rfl;have V:c.argTypes=#[t,U]:=Pl.1 (by rw[u]);have W:c.args.map a.eval=#[a.eval s,a.eval x]:=Pl.1 (by rw[UP,i];rfl);rw[V,W];have y:=kS h.env h.nA s (r s (by rw[i];simp));have z:=kS h.env h.nA x (r x (by rw[i];simp))
  split at k
  ·rename_i e sz tag l M m A hs D;obtain⟨rfl,E,I,B,k⟩:=k;rw[hs] at y;rw[D] at z;obtain⟨J,N,O,o2,X,Y,L,f,_,_⟩:=yV z;have q:=DW I f.sz;rw[L]
   exact Nr h Q A y E (Sy A ty (b:=O) (o:=o2) (λZ=>f.base (XC.1 Z)) (by rw[<-f.cells.length,Ax q]) (λj v hv=>by
    rw[Addr.add_lit]
    exact h.g.NK O _ v (f.has j v hv)) (qd (f.cells.DL.mono λ_ _ _ h=>pj.p h) f.F5)) f.cells f.F5 q B C k
  ·exact k.elim
 ·exact k.elim
def zc(s:ByteArray):List AV:=s.data.toList.map λb=>AV.sc (.int .u8 (b.toNat:Int))
def Lo(P:Program)(T:fx)(c:Call)(dst:Option Nat)(K:Fr->dM->Prop)(fr:Fr)(H:dM):Prop:=
 match dst,c.args.toList,c.argTypes.toList with
 |some d,[s,x],[t,a]=>
  match zb P t,P.underlying a,ev T fr s,ev T fr x with
  |some (_,sz),some .string,.slice tag l,.sc (.string y)=>
   sz=1/\ui 1 l=true/\l.length+y.size<=uM/\(if xP fr tag l then K (grown fr d tag l (zc y)) H else zc y=[]/\K (fr.put (some d) (.slice .pw l)) H)
  |_,_,_,_=>False
 |_,_,_=>False
def Uq{t u e:TypeId}(j:zb P t=some (e,1))(d:P.underlying u=some .string)(ty:TypeId)(s:ByteArray):Ui P w t u e 1 s.size (.string s) (Lib.strCells s) ty where
 none q base len cap C:=by
  obtain⟨i,z,hu,hi,r,m,k,n,l⟩:=xf j;have v:=Lib.run_firstCells_string (P:=P) w i.size s;have hn:Lib.strCells s=[]:=Df (by rw[Lib.strCells_length];exact q);rw[q,hn] at v;cases base with
  |none=>simp[Builtin.append_,run_underlying hu,run_underlying d,sizeOf,typeInfo,hi,Builtin.lenOf,q,C,v]|some K=>simp[Builtin.append_,run_underlying hu,run_underlying d,sizeOf,typeInfo,hi,Builtin.lenOf,q,C,v,storeCells]
 room E g a c cur F hg o x:=by
  obtain⟨i,z,hu,hi,r,m,k,n,l⟩:=xf j;have v:=Lib.run_firstCells_string (P:=P) w 1 s;have y:=run_storeCells_at P g (a*1) F (Lib.strCells s) 0 cur w hg (by simpa using x) (Lib.strCells_oneCell s);simp only[oH,Nat.mul_one] at y;simp[Builtin.append_,run_underlying hu,run_underlying d,sizeOf,typeInfo,hi,k,Builtin.lenOf,o,v,Addr.add_lit,y]
 grow E base a c f holds G H A B:=by
  obtain⟨i,z,hu,hi,r,m,k,n,l⟩:=xf j;have p:a+s.size<=1099511627776:=B
  have h:(a+s.size)*i.bytes<=140737488355328:=by
   have:=BA p n;omega
  have NI:a+s.size<=maxLen:=by simp only[maxLen];omega
  refine⟨grownCap w (a+s.size) c e,(Builtin.zeroCells z.cells (grownCap w (a+s.size) c e-(a+s.size))).toList,grownCap_ge w (a+s.size) c e,grownCap_le_maxLen w (a+s.size) c e NI,FY (SV j hi r) Zb _,?_,?_⟩
  ·have:=grownCap_ge w (a+s.size) c e;simp only[oG,ZZ,size_zeroCells,m,holds,Lib.strCells_length];omega
  ·have I:(f++Lib.strCells s++(Builtin.zeroCells z.cells (grownCap w (a+s.size) c e-(a+s.size))).toList).toArray=f.toArray++(Lib.strCells s).toArray++Builtin.zeroCells z.cells (grownCap w (a+s.size) c e-(a+s.size)):=by
    apply Pl.1;simp
   rw[I];cases base with
   |some b=>exact Lib.run_append_grow_string w t u ty e i z hu d hi r b a c f (by rw[k];exact holds) (H b rfl) s A Zb (growslice_fits A h)|none=>
    obtain⟨rfl,rfl⟩:=G rfl;have q:f=[]:=Df (by simpa using holds);subst q;have D:=run_append_nil_string (P:=P) w t u ty e i z hu d hi r s Zb Zb (by rw[sZ] at h;omega)
    have J:(s.data.map λb=>Value.int .u8 b.toNat)=(Lib.strCells s).toArray:=by
     apply Array.ext';simp[Lib.strCells]
    rw[J] at D;simpa using D
def Ki(s:ByteArray):(zc s).flatMap AV.cells=(Lib.strCells s).map AV.sc:=by
 unfold zc Lib.strCells
 induction s.data.toList with
 |nil=>rfl|cons b l a=>simp only[jc,P_,a];rfl
def EH{F:rv}{G:Nat->Nat}{k:Nat}:∀(L:List Value),(∀v∈L,J_ v=true)->kR F G k (L.map AV.sc) L
 |[],_=>.nil|v::L,h=>.cons (.sc (h v aae)) (EH L λx a=>h x (by simp[a]))
def QS{ρ:Maps}{F:rv}{R:Nat->x0}(h:WR T n w0.heap.size ρ F R fr H a w)(B:Ext w0.heap.size G0 F0 n0 w0 ρ.G F H.length w){c:Call}{dst:Option Nat}{ty:TypeId}{K:Fr->dM->Prop}
  (g:Lo P T c dst K fr H) (C:∀d,dst=some d->d<n) (i:∀x∈c.args.toList,oX x=true):∃v w' fr' H',(Builtin.append_ c.argTypes ty (c.args.map a.eval)).run P w=.ok v w'/\K fr' H'/\SR T n G0 F0 n0 w0 fr' H' (a.put dst v) w':=by
 unfold Lo at g
 split at g
 ·rename_i d s x t D f j;have u:=C d rfl;have E:c.argTypes=#[t,D]:=Pl.1 (by rw[j]);have I:c.args.map a.eval=#[a.eval s,a.eval x]:=Pl.1 (by rw[UP,f];rfl);rw[E,I];have k:=kS h.env h.nA s (i s (by rw[f];simp));have m:=kS h.env h.nA x (i x (by rw[f];simp))
  split at g
  ·rename_i e sz tag l y o p hs z;obtain⟨rfl,A,q,g⟩:=g;rw[hs] at k;rw[z] at m;rw[jG m]
   have hlen:(zc y).length=y.size:=by simp[zc]
   have J:kR F ρ.G ρ.n ((zc y).flatMap AV.cells) (Lib.strCells y):=by
    rw[Ki];refine EH _ λv L=>?_;obtain⟨b,_,rfl⟩:=nj.1 L;rfl
   have M:∀c∈(zc y).flatMap AV.cells,c.k7=true:=λc r=>by
    rw[Ki] at r;obtain⟨v,_,rfl⟩:=nj.1 r;rfl
   have c3:∀c∈zc y,c.cells.length=1:=λc r=>by
    obtain⟨b,_,rfl⟩:=nj.1 r;rfl
   exact Nr h B o k A (by rw[hlen];exact Uq o p ty y) J M c3 (by rw[hlen];exact q) u g
  ·exact g.elim
 ·exact g.elim
end
end Go.tq
namespace Go.tq
open Go
def q_(P:Program)(t:TypeId):Option (List AV):=
 match zeroOf P t with
 |some z=>if JS z=true/\iu (ofValue z) then some (ofValue z).cells else none|none=>none
def Ry{P:Program}{t:TypeId}{cs:List AV}(h:q_ P t=some cs):∃z,zeroOf P t=some z/\JS z=true/\iu (ofValue z)=true/\cs=(ofValue z).cells:=by
 unfold q_ at h
 split at h
 ·rename_i z b
  split at h
  ·rename_i a;injection h with h;exact⟨z,b,a.1,a.2,h.symm⟩
  ·cases h
 ·cases h
def HP(fr:Fr)(d:Nat)(cells:List AV)(len cap:Nat):Fr:=
 {fr with env:=kQ fr.env d (.FZ d (fr.gen d+1) len cap),box:=kQ fr.box d (some cells),gen:=kQ fr.gen d (fr.gen d+1)}
def NF(n:Nat):List AV:=List.replicate n .undef
def Mg(P:Program)(T:fx)(c:Call)(dst:Option Nat)(K:Fr->dM->Prop)(fr:Fr)(H:dM):Prop:=
 match dst,c.args.toList,c.argTypes.toList with
 |some d,[s,x],[t,f]=>
  match zb P t,ev T fr x with
  |some (e,sz),.slice _ m=>
   f=t/\ui sz m=true/\(q_ P e).isSome=true/\0<m.length/\match ev T fr s with
   |.slice .full l=>ui sz l=true/\l.length+m.length<=uM/\∀cap,l.length+m.length<=cap->K (HP fr d (l.flatMap AV.cells++m.flatMap AV.cells++NF ((cap-(l.length+m.length))*sz)) (l.length+m.length) cap) H|.FZ b g len cap=>g=fr.gen b/\len+m.length<=uM/\match fr.box b with
    |some cs=>cs.length=cap*sz/\(len+m.length<=cap->K {fr with env:=kQ fr.env d (.FZ b g (len+m.length) cap),box:=kQ fr.box b (some (setCells cs (len*sz) (m.flatMap AV.cells)))} H)/\(∀a,cap<len+m.length->len+m.length<=a->K (HP fr d (cs.take (len*sz)++m.flatMap AV.cells++NF ((a-(len+m.length))*sz)) (len+m.length) a) H)|none=>False
   |_=>False
  |_,_=>False
 |_,_,_=>False
section
variable{P:Program} {T:fx} {n:Nat} {G0:Nat->Nat} {F0:rv} {n0:Nat} {w0:World} {fr:Fr} {H:dM} {a:Act} {w:World}
def Tk{e:TypeId}(h:(q_ P e).isSome=true){i:TypeInfo}{z:Value}(hi:P.info? e=some i)(c:i.zero=some z):∀u∈z.cells.toList,u.oneCell'=true:=by
 cases b:q_ P e with
 |none=>rw[b] at h;cases h
 |some cs=>
  obtain⟨d,a,f,g,_⟩:=Ry b
  have:d=z:=by
   unfold zeroOf at a;rw[hi] at a;simp only[Option.bind_some,c] at a;exact(hZ a).symm
  subst this;exact(Ka f (λvs j=>by subst j;simp[ofValue,iu] at g)).2
def Hm(w:World){t e:TypeId}{sz:Nat}(o:zb P t=some (e,sz))(p:(q_ P e).isSome=true)(ty:TypeId)(base:Option Addr)(a d:Nat)(f:List Value)(holds:f.length=a*sz)
  (C:base=none->a=0/\d=0) (D:∀k,base=some k->∀j v,f[j]?=some v->w.cell? (k.add j)=some v)
  (k:Addr) (m c:Nat) (news:List Value) (A:news.length=m*sz) (hn:∀j v,news[j]?=some v->w.cell? (k.add j)=some v) (l:d<a+m) (n:a+m<=uM):∃cap rest,a+m<=cap/\cap<=maxLen/\rest.length=(cap-(a+m))*sz/\(∀u∈rest,u.oneCell'=true)/\(Builtin.append_ #[t,t] ty #[.slice base a d,.slice (some k) m c]).run P w=.ok (.slice (some ⟨w.heap.size,0,none⟩) (a+m) cap) (w.drew.alloc (.cells (f++news++rest).toArray e)):=by
 obtain⟨i,z,hu,hi,q,r,s,x,B⟩:=xf o;subst s;have h:a+m<=1099511627776:=n
 have g:(a+m)*i.bytes<=140737488355328:=by
  have:=BA h x;omega
 have NI:a+m<=maxLen:=by simp only[maxLen];omega
 have y:=grownCap_ge w (a+m) d e;have hle:=grownCap_le_maxLen w (a+m) d e NI;refine⟨grownCap w (a+m) d e,(Builtin.zeroCells z.cells (grownCap w (a+m) d e-(a+m))).toList,y,hle,?_,FY (Tk p hi q) Zb _,?_⟩
 ·simp only[ZZ,size_zeroCells,r]
 ·have E:(f++news++(Builtin.zeroCells z.cells (grownCap w (a+m) d e-(a+m))).toList).toArray=f.toArray++news.toArray++Builtin.zeroCells z.cells (grownCap w (a+m) d e-(a+m)):=by
   apply Pl.1;simp
  rw[E];cases base with
  |some b=>
   exact run_append_grow w t ty e i z hu hi q b a d f holds (D b rfl) k m c news A hn l Zb (growslice_fits l g)
  |none=>
   obtain⟨rfl,rfl⟩:=C rfl;have:f=[]:=Df (by simpa using holds);subst this;simp only[sZ] at l g h|-;have:=run_append_nil (P:=P) w t ty e i z hu hi q k m c news A hn Zb Zb Zb;simpa using this
def Ou{F:rv}{ρ:Maps}:∀{rest:List Value} {k:Nat},rest.length=k->(∀u∈rest,u.oneCell'=true)->lY (pj F ρ) (NF k) rest
 |[],k,h,_=>by cases h;exact .nil
 |u::rest,k,h,a=>by
  cases h;show lY _ (List.replicate (rest.length+1) AV.undef) _;rw[List.replicate_succ];exact .cons (.p (.undef (a u aae))) (Ou rfl λv b=>a v (by simp[b]))
def OP(k:Nat):∀c∈NF k,c.k7=true:=by
 intro c a;rw[List.eq_of_mem_replicate a];rfl
def WR.XL{ρ:Maps}{F:rv}{R:Nat->x0}(h:WR T n w0.heap.size ρ F R fr H a w)(p:Ext w0.heap.size G0 F0 n0 w0 ρ.G F H.length w){d len cap:Nat}(k:d<n){cells:List AV}{vs:Array Value}(ty:TypeId)
  (l:lY (pj F ρ) cells vs.toList) (f:∀c∈cells,c.k7=true) (hlen:len<=cap) (Lr:cap<=maxLen):SR T n G0 F0 n0 w0 (HP fr d cells len cap) H (a.put (some d) (.slice (some ⟨w.heap.size,0,none⟩) len cap)) (w.drew.alloc (.cells vs ty)):=by
 have q:=h.drew.alloc (.cells vs ty);have i:(w.drew.alloc (.cells vs ty)).heap[w.drew.heap.size]?=some (.cells vs ty (0,0)):=heap_alloc_new w.drew _;have r:w.drew.heap.size=w.heap.size:=rfl;have e:R w.drew.heap.size=.free:=h.tf _ (jM _);have hF:∀j,F w.drew.heap.size j=none:=λj=>h.g.fresh _ j (jM _);obtain⟨ρ',s,hG,hw⟩:=q.Zn h.Ag e hF i l f k;have t:=hw.box d cells (by simp[kQ])
 have u:ρ'.L d (fr.gen d+1)=w.heap.size:=by
  have he:=hw.env d
  have m:({fr with env:=kQ fr.env d (.mD d (fr.gen d+1) 0),box:=kQ fr.box d (some cells),gen:=kQ fr.gen d (fr.gen d+1)}:Fr).env d=.mD d (fr.gen d+1) 0:=by simp[kQ]
  rw[m,TW a (some d) _ d (by intro y he;injection he with he;subst he;rw[h.size];exact k),cL rfl] at he;have:=(GB he).1;injection this with this;injection this with this;injection this with this;exact this.symm
 have o:fr.gen d+1<=ρ'.lg d:=by
  rw[hw.lg d];simp[kQ]
 have kY:=hw.put (d:=some d) (by intro y he;injection he with he;subst he;exact k) (x:=.FZ d (fr.gen d+1) len cap) (v:=.slice (some ⟨w.heap.size,0,none⟩) len cap) (by
  have:=pj.FZ (F:=F) (ρ:=ρ') (b:=d) (g:=fr.gen d+1) o hlen Lr;rw[u] at this
  exact .cell this)
 refine⟨ρ',F,s,?_,?_⟩
 ·have m:(({fr with env:=kQ fr.env d (.mD d (fr.gen d+1) 0),box:=kQ fr.box d (some cells),gen:=kQ fr.gen d (fr.gen d+1)}:Fr).put (some d) (.FZ d (fr.gen d+1) len cap))=HP fr d cells len cap:=by
   simp only[HP,Fr.put,RH]
  have z:(a.put (some d) (.pointer (some ⟨w.heap.size,0,none⟩))).put (some d) (.slice (some ⟨w.heap.size,0,none⟩) len cap)=a.put (some d) (.slice (some ⟨w.heap.size,0,none⟩) len cap):=by
   simp[Act.put]
  rw[m,z] at kY;exact kY
 ·rw[hG];exact(p.drew).alloc h.Ag _
def Qo{ρ:Maps}{F:rv}{R:Nat->x0}(h:WR T n w0.heap.size ρ F R fr H a w)(hx:Ext w0.heap.size G0 F0 n0 w0 ρ.G F H.length w){c:Call}{dst:Option Nat}{ty:TypeId}{K:Fr->dM->Prop}
  (y:Mg P T c dst K fr H) (hd:∀d,dst=some d->d<n) (an:∀x∈c.args.toList,oX x=true):∃v w' fr' H',(Builtin.append_ c.argTypes ty (c.args.map a.eval)).run P w=.ok v w'/\K fr' H'/\SR T n G0 F0 n0 w0 fr' H' (a.put dst v) w':=by
 unfold Mg at y
 split at y
 ·rename_i d s x t t' A ao;have V:=hd d rfl;have e1:c.argTypes=#[t,t']:=Pl.1 (by rw[ao]);have e2:c.args.map a.eval=#[a.eval s,a.eval x]:=Pl.1 (by rw[UP,A];rfl);rw[e1,e2];have Q:=kS h.env h.nA s (an s (by rw[A];simp));have aq:=kS h.env h.nA x (an x (by rw[A];simp))
  split at y
  ·rename_i e sz aQ m W aC;obtain⟨rfl,aD,ar,X,y⟩:=y;rw[aC] at aq;obtain⟨aE,D,b2,o2,aU,k,aF,f,_,_⟩:=yV aq;have hm:m≠[]:=XC.1 X;have aw:=DW aD f.sz;have S:=f.base hm
   have B:∀j v,k[j]?=some v->w.cell? ((⟨b2,o2,none⟩:Addr).add j)=some v:=by
    intro j v O;rw[Addr.add_lit];exact h.g.NK b2 _ v (f.has j v O)
   have E:k.length=m.length*sz:=by rw[<-f.cells.length,Ax aw]
   have I:lY (pj F ρ) (m.flatMap AV.cells) k:=f.cells.DL.mono λ_ _ _ h=>.p h;have Y:∀u∈k,u.oneCell'=true:=qd I f.F5;obtain⟨i,z,hu,hi,hz,aV,Z,aW,aR⟩:=xf W;rw[aF,S]
   split at y
   ·--a new row
    rename_i l hs;obtain⟨aG,J,y⟩:=y;rw[hs] at Q;obtain⟨base,cap,b,o,aX,vs,aa,C,ab,_⟩:=yV Q;rw[aa];have Lr:cap=l.length:=ab rfl;have ax:=DW aG C.sz
    have U:vs.length=l.length*sz:=by rw[<-C.cells.length,Ax ax]
    have aH:base=none->l.length=0/\cap=0:=by
     rintro rfl
     have aI:l=[]:=by
      rcases Z8 l with h'|⟨_,_,h'⟩
      ·exact h'
      ·have:=C.base (by rw[h'];simp);cases this
     subst aI;exact⟨rfl,Lr⟩
    have ho:∀ad,base=some ad->∀j v,vs[j]?=some v->w.cell? (ad.add j)=some v:=by
     intro ad ae j v O
     have ay:l≠[]:=by
      rintro rfl;have:vs=[]:=Df (by simpa using U);rw[this] at O;simp at O
     have:=C.base ay;rw[ae] at this;obtain rfl:=hZ this;rw[Addr.add_lit];exact h.g.NK b _ v (C.has j v O)
    obtain⟨M,rest,N,af,ah,ai,q⟩:=Hm w W ar ty base l.length cap vs U aH ho ⟨b2,o2,none⟩ m.length D k E B Zb J;refine⟨_,_,_,_,q,y M N,h.XL hx V e ?_ ?_ N af⟩
    ·simp only;exact((C.cells.DL.mono λ_ _ _ h=>pj.p h).append I).append (Ou ah ai)
    ·intro c hc;simp only[tA] at hc;rcases hc with(hc|hc)|hc
     ·exact C.F5 c hc
     ·exact f.F5 c hc
     ·exact OP _ c hc
   ·--a row of aY az own
    rename_i b g len cap hs;obtain⟨hg,J,y⟩:=y;rw[hs] at Q;obtain⟨aa,aJ,aK,aL⟩:=JF Q;rw[aa]
    split at y
    ·rename_i cs hb;obtain⟨aM,aN,aO⟩:=y;obtain⟨b1,aP,b3,cur,cty,b4,b5⟩:=h.box b cs hb;rw[<-hg] at b1 aP b4
     have aS:cur.size=cap*sz:=by rw[<-aM];simpa using b5.length.symm
     have hle:len*sz<=cap*sz:=NX _ aK
     by_cases r:len+m.length<=cap
     ·have aT:len*sz+m.length*sz<=cap*sz:=by rw[<-zy];exact NX _ r
      have q:=Gw (P:=P) w t' ty e cty i hu hi (ρ.L b g) len cap cur b4 ⟨b2,o2,none⟩ m.length D k (by rw[Z];exact E) B Y r (by rw[Z];omega);rw[Z] at q;have iE:=b5.setCells I (len*sz);have aA:(m.flatMap AV.cells).length=k.length:=I.length
      have ak:∀c∈setCells cs (len*sz) (m.flatMap AV.cells),c.k7=true:=by
       intro c hc;simp only[setCells,tA] at hc;rcases hc with(hm|hm)|hm
       ·exact b3 c (MG hm)
       ·exact f.F5 c hm
       ·exact b3 c (QH hm)
      have aB:=h.W7 hb (vs':=(cur.toList.take (len*sz)++k++cur.toList.drop (len*sz+k.length)).toArray) (by rw[<-aA];simpa[aA] using iE) ak;rw[<-hg] at aB;have kY:=aB.put (d:=some d) (by intro d' he;injection he with he;subst he;exact V) (x:=.FZ b g (len+m.length) cap) (v:=.slice (some ⟨ρ.L b g,0,none⟩) (len+m.length) cap) (.cell (.FZ aJ r aL));refine⟨_,_,_,_,q,aN r,ρ,F,R,kY,hx.setRow (.inl b1) _⟩
     ·have ho:∀ad,some (⟨ρ.L b g,0,none⟩:Addr)=some ad->∀j v,(cur.toList.take (len*sz))[j]?=some v->w.cell? (ad.add j)=some v:=by
       intro ad ae j v O;obtain rfl:=hZ ae;rw[Addr.add_lit,sZ,cell_of_row w _ _ cur cty (0,0) b4];rw[VG] at O
       split at O
       ·simpa using O
       ·cases O
      obtain⟨M,rest,N,af,ah,ai,q⟩:=Hm w W ar ty (some ⟨ρ.L b g,0,none⟩) len cap (cur.toList.take (len*sz)) aaV (by intro h;cases h) ho ⟨b2,o2,none⟩ m.length D k E B Zb J;refine⟨_,_,_,_,q,aO M Zb N,h.XL hx V e ?_ ?_ N af⟩
      ·simp only;exact((b5.take _).append I).append (Ou ah ai)
      ·intro c hc;simp only[tA] at hc;rcases hc with(hc|hc)|hc
       ·exact b3 c (MG hc)
       ·exact f.F5 c hc
       ·exact OP _ c hc
    ·exact y.elim
   ·exact y.elim
  ·exact y.elim
 ·exact y.elim
end
end Go.tq
namespace Go.tq
open Go Go.MapKept
def P7:TypeDesc->Value->Bool
 |.bool,.bool _=>true|.int k,.int k' _=>k'==k|.string,.string _=>true|_,_=>false
def XA:Value->Value->Bool
 |.bool a,.bool b=>a==b|.int _ a,.int _ b=>a==b|.string a,.string b=>a==b|_,_=>false
theorem EA{d:TypeDesc}{v:Value}(h:P7 d v=true):IsKey d v:=by
 unfold P7 at h
 split at h<;>simp_all [IsKey]
def MI{d:TypeDesc}{a b:Value}(c:IsKey d a)(e:IsKey d b):XA a b=true↔a=b:=by
 cases d<;>cases a<;>cases b<;>simp_all [IsKey,XA,bytes_beq]
def mapIdx(ks:List Value)(k:Value):Option Nat:=ks.findIdx? (λx=>XA x k)
def Je{d:TypeDesc}{k:Value}(f:IsKey d k):∀{ks:List Value} {j:Nat},(∀x∈ks,IsKey d x)->ks.Nodup->ks[j]?=some k->mapIdx ks k=some j
 |[],j,_,_,h=>by simp at h
 |x::ks,j,a,hn,h=>by
  have b:=a x aae;unfold mapIdx;rw[aar];cases j with
  |zero=>
   simp at h;subst h;rw[cL ((MI b b).2 rfl)]
  |succ j=>
   simp at h
   have c:x≠k:=by
    rintro rfl;exact(Sr.1 hn).1 (AY h)
   rw[cJ (λe=>c ((MI b f).1 e))];have:=Je f (λy hy=>a y (by simp[hy])) (Sr.1 hn).2 h;unfold mapIdx at this;rw[this];rfl
def IA{d:TypeDesc}{k:Value}(b:IsKey d k):∀{ks:List Value},(∀x∈ks,IsKey d x)->(∀x∈ks,x≠k)->mapIdx ks k=none
 |[],_,_=>rfl|x::ks,a,h=>by
  unfold mapIdx;rw[aar,cJ (λe=>h x aae ((MI (a x aae) b).1 e))];have:=IA b (ks:=ks) (λy hy=>a y (by simp[hy])) (λy hy=>h y (by simp[hy]))
  grind[mapIdx]
def TZ(P:Program)(t:TypeId):Option AV:=
 match zeroOf P t with
 |some z=>if JS z=true/\iu (ofValue z) then some (ofValue z).norm else none|none=>none
def Dz(P:Program)(H:dM)(t:TypeId)(x i:AV)(ok:Bool):Option AV:=
 match P.underlying t,x,i with
 |some (.map kt e),.vu o,.sc k=>
  match P.underlying kt,H[o]?,TZ P e with
  |some d,some [.Dd ks xs],some z=>
   if P7 d k=true/\ks.all (P7 d) then
    match mapIdx ks k with
    |some j=>(xs[j]?).map λv=>if ok then .tuple [v,.sc (.bool true)] else v|none=>some (if ok then .tuple [z,.sc (.bool false)] else z)
   else none
  |_,_,_=>none
 |_,_,_=>none
def Mv(ks:List Value)(xs:List AV)(k:Value)(v:AV):AV:=
 match mapIdx ks k with
 |some j=>.Dd ks (xs.set j v)|none=>.Dd (ks++[k]) (xs++[v])
def BR(P:Program)(t:TypeId)(x i v:AV)(K:Fr->dM->Prop)(fr:Fr)(H:dM):Prop:=
 match P.underlying t,x,i with
 |some (.map kt _),.vu o,.sc k=>
  match P.underlying kt,H[o]?with
  |some d,some [.Dd ks xs]=>P7 d k=true/\ks.all (P7 d)=true/\K fr (H.set o [Mv ks xs k v.norm])|_,_=>False
 |_,_,_=>False
def O2(dst:Option Nat)(K:Fr->dM->Prop)(fr:Fr)(H:dM):Prop:=K (fr.put dst (.vu H.length)) (H++[[.Dd [] []]])
def OS(P:Program)(t:TypeId)(x:AV)(dst:Option Nat)(K:Fr->dM->Prop)(fr:Fr)(H:dM):Prop:=
 match P.underlying t,x with
 |some (.map _ _),.vu o=>
  match H[o]?with
  |some [.Dd ks _]=>K (fr.put dst (.gS H.length 0)) (H++[[.ue o ks.length []]])|_=>False
 |_,_=>False
def Rb(x:AV)(dst:Option Nat)(K:Fr->dM->Prop)(fr:Fr)(H:dM):Prop:=
 match x with
 |.gS i 0=>
  match H[i]?with
  |some [.ue o since seen]=>
   match H[o]?with
   |some [.Dd ks xs]=>ks.length=since/\ks.all J_=true/\((∀j,j<ks.length->j∈seen)->K (fr.put dst (.tuple [.sc (.bool false)])) H)/\∀j k v,ks[j]?=some k->xs[j]?=some v->j∉seen->K (fr.put dst (.tuple [.sc (.bool true),.sc k,v])) (H.set i [.ue o since (seen++[j])])|_=>False
  |_=>False
 |_=>False
def MY(x:AV)(H:dM):Option AV:=
 match x with
 |.gS i 0=>
  match H[i]?with
  |some [.ue o since seen]=>
   match H[o]?,seen.getLast? with
   |some [.Dd ks xs],some j=>
    match ks[j]?,xs[j]?with
    |some k,some v=>if ks.length=since/\J_ k then some (.tuple [.sc k,v])else none|_,_=>none
   |_,_=>none
  |_=>none
 |_=>none
def sQ.LQ{F:rv}{G:Nat->Nat}{n:Nat}{ks xs a}(h:sQ F G n [.Dd ks xs] a):∃es clock,a=.map es clock/\es.toList.map (·.key)=ks/\lY (k5 F G n) xs (es.toList.map (·.val))/\es.toList.map (·.born)=List.range ks.length/\clock=ks.length/\ks.Nodup:=by
 cases h with
 |cells d c b=>have:=b (.Dd ks xs) aae;simp[AV.k7] at this
 |map c b e f g=>grind
def sQ.Td{F:rv}{G:Nat->Nat}{n:Nat}{o since seen a}(h:sQ F G n [.ue o since seen] a):a=.mapIter (some (G o)) since seen.toArray since/\o<n:=by
 cases h with
 |cells c d b=>have:=b (.ue o since seen) aae;simp[AV.k7] at this
 |iter h=>grind
section
variable{P:Program} {T:fx} {n B0:Nat} {ρ:Maps} {F:rv} {R:Nat->x0} {fr:Fr} {H:dM} {a:Act} {w:World}
def MD{o:Nat}{v:Value}(h:kI F ρ (.vu o) v):v=.map (some (ρ.G o))/\o<ρ.n:=by
 cases h with
 |cell h=>cases h with
  |p h=>cases h with|vu h=>exact⟨rfl,h⟩
def WJ(w:World){t:TypeId}{z:AV}(h:TZ P t=some z):∃v,(zeroValue t).run P w=.ok v w/\k5 F ρ.G ρ.n z v:=by
 unfold TZ at h
 split at h
 ·rename_i z0 a
  split at h
  ·rename_i b;injection h with h;subst h;refine⟨z0,?_,(kI.p (Me _ _ _ _ b.1)).norm⟩;unfold zeroOf at a;cases hi:P.info? t with
   |none=>grind|some i=>
    rw[hi] at a;simp at a;simp[zeroValue,typeInfo,hi,a]
  ·cases h
 ·cases h
def Vj{d:TypeDesc}{ks:List Value}{es:Array MapEntry}(h:es.toList.map (·.key)=ks)(a:ks.all (P7 d)=true):∀x∈es.toList,IsKey d x.key:=by grind[EA]
def Of{ks:List Value}{es:Array MapEntry}{j:Nat}{e:MapEntry}(h:es.toList.map (·.key)=ks)(a:es.toList[j]?=some e):ks[j]?=some e.key:=by grind
def TX(h:WR T n B0 ρ F R fr H a w){t:TypeId}{x i r:AV}{ok:Bool}{M N:Value}(c:Dz P H t x i ok=some r)(E:kI F ρ x M)(hi:kI F ρ i N):∃v,(Instr.lookup t M N ok).run P w=.ok v w/\kI F ρ r v:=by
 unfold Dz at c
 split at c
 ·rename_i kt e o k hu
  split at c
  ·rename_i d ks xs z C S U
   split at c
   ·rename_i G;obtain⟨rfl,_⟩:=MD E;obtain rfl:=jG hi;obtain⟨Y,O,V⟩:=h.g.sN o _ S;obtain⟨es,clock,rfl,I,Q,Z,e4,W⟩:=V.LQ;rw[<-h.hn] at Q;have b:=EA G.1;have m:=Vj I G.2;have q:∀y∈ks,IsKey d y:=λy hy=>EA (gR.1 G.2 _ hy);obtain⟨J,K,s⟩:=WJ (F:=F) (ρ:=ρ) w U;rcases findNow_spec b es.toList 0 m with⟨f,l⟩|⟨j,D,f,l,L⟩
    ·rw[IA b q (by
      intro y hy;rw[<-I] at hy;obtain⟨x,E,rfl⟩:=nj.1 hy
      exact l x E)] at c
     simp only[zq] at c;subst c;refine⟨if ok then .tuple #[J,.bool false] else J,?_,?_⟩
     ·cases ok<;>simp[Instr.lookup,run_underlying hu,MapKept.run_getObj_map O,run_checkKey C b,run_findKey C f,K,Result.andThen]
     ·cases ok
      ·exact .p s
      ·exact .p (.tuple (vs:=[J,.bool false]) (.cons s (.cons (.sc rfl) .nil)))
    ·have u:=Of I l;rw[L] at u;rw[Je b q W u] at c;simp only[X'] at c;obtain⟨y,hy,rfl⟩:=c;obtain⟨X,A,B⟩:=Q.get hy
     have:X=D.val:=by
      rw[x_,l] at A;simpa using A.symm
     subst this;simp only[sZ] at f;refine⟨if ok then .tuple #[D.val,.bool true] else D.val,?_,?_⟩
     ·cases ok<;>simp[Instr.lookup,run_underlying hu,MapKept.run_getObj_map O,run_checkKey C b,run_findKey C f,Result.andThen]
     ·cases ok
      ·exact .p B
      ·exact .p (.tuple (vs:=[D.val,.bool true]) (.cons B (.cons (.sc rfl) .nil)))
   ·cases c
  ·cases c
 ·cases c
def lY.aeb{α β:Type}{R:α->β->Prop}{as:List α}{bs:List β}(h:lY R as bs){a:α}{b:β}(c:R a b)(j:Nat):lY R (as.set j a) (bs.set j b):=by
 induction h generalizing j with
 |nil=>simp;exact .nil|cons d e f=>cases j with
  |zero=>exact .cons c e|succ j=>exact .cons d (f j)
def KS(f:MapEntry->MapEntry){α:Type}(g:MapEntry->α)(es:Array MapEntry)(j:Nat){e:MapEntry}(a:es.toList[j]?=some e):(es.modify j f).toList.map g=(es.toList.map g).set j (g (f e)):=by
 apply WV
 grind
def Tw{α:Type}{l:List α}{j:Nat}{x:α}(h:l[j]?=some x):l.set j x=l:=by
 apply WV
 grind
def Mb{G0:Nat->Nat}{F0:rv}{n0:Nat}{w0:World}(h:WR T n w0.heap.size ρ F R fr H a w)(L:Ext w0.heap.size G0 F0 n0 w0 ρ.G F H.length w){t:TypeId}{x i v:AV}{W s u:Value}{K:Fr->dM->Prop}
  (k:BR P t x i v K fr H) (M:kI F ρ x W) (N:kI F ρ i s) (A:kI F ρ v u):∃fr' H' w',(Instr.mapUpdate t W s u).run P w=.ok () w'/\K fr' H'/\SR T n G0 F0 n0 w0 fr' H' a w':=by
 unfold BR at k
 split at k
 ·rename_i kt e o kk hu
  split at k
  ·rename_i d ks xs J O;obtain⟨Q,B,k⟩:=k;obtain⟨rfl,_⟩:=MD M;obtain rfl:=jG N;obtain⟨ob,C,Z⟩:=h.g.sN o _ O;obtain⟨es,clock,rfl,z,S,X,U,Y⟩:=Z.LQ;have c:=EA Q;have p:=Vj z B;have D:∀y∈ks,IsKey d y:=λy hy=>EA (gR.1 B _ hy)
   have hlen:es.toList.length=ks.length:=by rw[<-z];simp
   rw[<-h.hn] at S
   have fin:∀(l:Obj) (q:List AV),sQ F ρ.G ρ.n q l->K fr (H.set o q)->(Instr.mapUpdate t (.map (some (ρ.G o))) s u).run P w=.ok () {w with heap:=w.heap.setIfInBounds (ρ.G o) l}->∃fr' H' w',(Instr.mapUpdate t (.map (some (ρ.G o))) s u).run P w=.ok () w'/\K fr' H'/\SR T n G0 F0 n0 w0 fr' H' a w':=by
    intro l q V k E;obtain⟨s1,s2⟩:=heap_set (o':=l) C;refine⟨_,_,_,E,k,ρ,F,R,h.Po O aae aae s1 s2 V,?_⟩;rw[Yl];refine L.TP rfl rfl rfl aae λb hb hn=>s2 b ?_;rintro rfl;exact hn o (qR.1 O).1 rfl
   rcases findNow_spec c es.toList 0 p with⟨m,f⟩|⟨j,e0,m,f,I⟩
   ·rw[Mv,IA c D (by
     intro y hy;rw[<-z] at hy;obtain⟨x,L,rfl⟩:=nj.1 hy
     exact f x L)] at k
    refine fin (.map (es.push {key:=s,val:=u,born:=clock}) (clock+1)) _ (.map ?_ ?_ ?_ ?_ ?_) k ?_
    ·simp[z]
    ·simpa using S.append (.cons A.norm .nil)
    ·simp[X,U,List.range_succ]
    ·simp[U]
    ·grind
    ·simp[Instr.mapUpdate,run_underlying hu,MapKept.run_getObj_map C,run_checkKey J c,run_findKey J m,run_setObj_map _ C,Result.andThen]
   ·have r:=Of z f;rw[I] at r;rw[Mv,Je c D Y r] at k
    have hj:es[j]?=some e0:=by simpa using f
    simp only[sZ] at m;refine fin (.map (es.modify j λe=>{e with key:=s,val:=u}) clock) _ (.map ?_ ?_ ?_ U Y) k ?_
    ·rw[KS _ _ _ _ f,z,Tw r]
    ·rw[KS _ _ _ _ f];exact S.aeb A.norm j
    ·rw[KS _ _ _ _ f,Tw (by rw[x_,f];rfl),X]
    ·simp[Instr.mapUpdate,run_underlying hu,MapKept.run_getObj_map C,run_checkKey J c,run_findKey J m,hj,I,run_keyThatStays c,run_setObj_map _ C,Result.andThen]
  ·exact k.elim
 ·exact k.elim
def DD{G0:Nat->Nat}{F0:rv}{n0:Nat}{w0:World}(h:WR T n w0.heap.size ρ F R fr H a w)(i:Ext w0.heap.size G0 F0 n0 w0 ρ.G F H.length w){c:Obj}{cs:List AV}(e:sQ F ρ.G ρ.n cs c)
  {dst:Option Nat} (k:∀d,dst=some d->d<n) {x:AV} {v:Value} (l:∀ρ':Maps,(∀o,o<H.length->ρ'.G o=ρ.G o)->ρ'.G H.length=w.heap.size->ρ'.n=H.length+1->k5 F ρ'.G ρ'.n x v):SR T n G0 F0 n0 w0 (fr.put dst x) (H++[cs]) (a.put dst v) (w.alloc c):=by
 obtain⟨ρ',m,hG,b,f,hw⟩:=(h.alloc c).Vd (h.tf _ (jM _)) (λj=>h.g.fresh _ j (jM _)) (heap_alloc_new w _) e;refine⟨ρ',F,m,hw.put k (.p (l ρ' hG b f)),?_⟩;rw[oG];exact(i.alloc h.Ag _).acm hG (by rw[b];exact h.Ag)
def Lu{G0:Nat->Nat}{F0:rv}{n0:Nat}{w0:World}(h:WR T n w0.heap.size ρ F R fr H a w)(i:Ext w0.heap.size G0 F0 n0 w0 ρ.G F H.length w){t k:Nat}{parts:List (Nat×AV)}{pv:List (Nat×Value)}{tag:Tag}{l:List AV}
  {dst:Option Nat} (j:uL P t k parts=some (.slice tag l)) (c:lY (λ(x:Nat×AV) (y:Nat×Value)=>x.1=y.1/\kI F ρ x.2 y.2) parts pv) (m:∀d,dst=some d->d<n):∃v w',(Instr.buildSlice t k pv.toArray).run P w=.ok v w'/\SR T n G0 F0 n0 w0 (fr.put dst (.Iv H.length 0 l.length l.length)) (H++[l.flatMap AV.cells]) (a.put dst v) w':=by
 obtain⟨s,us,e,sz,he,u,NI,p,b,f,g⟩:=Ip w j c;injection he with _ he;subst he;refine⟨_,_,g,DD h i (.cells (.inl rfl) (by simpa using b) f) m ?_⟩;intro ρ' hG q r;have:=k5.Iv (F:=F) (G:=ρ'.G) (n:=ρ'.n) (o:=H.length) (off:=0) (len:=l.length) (cap:=l.length) (by grind)
 grind
def Qq{G0:Nat->Nat}{F0:rv}{n0:Nat}{w0:World}(h:WR T n w0.heap.size ρ F R fr H a w)(b:Ext w0.heap.size G0 F0 n0 w0 ρ.G F H.length w){t:TypeId}{dst:Option Nat}(c:∀d,dst=some d->d<n):∃v w',(Instr.makeMap t none).run P w=.ok v w'/\SR T n G0 F0 n0 w0 (fr.put dst (.vu H.length)) (H++[[.Dd [] []]]) (a.put dst v) w':=by
 refine⟨.map (some w.heap.size),w.alloc (.map #[] 0),by simp[Instr.makeMap],DD h b (.map aae (by simp;exact .nil) aae rfl aae) c ?_⟩;intro ρ' hG e f;have:=k5.vu (F:=F) (G:=ρ'.G) (n:=ρ'.n) (o:=H.length) (by grind)
 grind
def SP{G0:Nat->Nat}{F0:rv}{n0:Nat}{w0:World}(h:WR T n w0.heap.size ρ F R fr H a w)(j:Ext w0.heap.size G0 F0 n0 w0 ρ.G F H.length w){t:TypeId}{x:AV}{i:Value}{dst:Option Nat}{K:Fr->dM->Prop}
  (b:OS P t x dst K fr H) (k:∀d,dst=some d->d<n) (c:kI F ρ x i):∃v w' fr' H',(Instr.range t i).run P w=.ok v w'/\K fr' H'/\SR T n G0 F0 n0 w0 fr' H' (a.put dst v) w':=by
 unfold OS at b
 split at b
 ·rename_i kt e o hu
  split at b
  ·rename_i ks xs l;obtain⟨rfl,f⟩:=MD c;obtain⟨u,m,p⟩:=h.g.sN o _ l;obtain⟨es,clock,rfl,y,z,A,q,B⟩:=p.LQ;subst q;refine⟨_,_,_,_,run_range_map w t kt e (ρ.G o) es ks.length hu m,b,DD h j (.iter (seen:=[]) f) k ?_⟩;intro ρ' hG r s;have:=k5.gS (F:=F) (G:=ρ'.G) (n:=ρ'.n) (o:=H.length) (off:=0) (by grind)
   grind
  ·exact b.elim
 ·exact b.elim
def T2{es:Array MapEntry}{k:Nat}(h:es.toList.map (·.born)=List.range k){e:MapEntry}(he:e∈es.toList):e.born<k/\es.toList[e.born]?=some e:=by
 obtain⟨j,a⟩:=Yv.1 he
 have b:(es.toList.map (·.born))[j]?=some e.born:=by grind
 grind
def QW(w:World){it m since:Nat}{seen:Array Nat}{es:Array MapEntry}(ty:TypeId)(hit:w.heap[it]?=some (.mapIter (some m) since seen since))(hm:w.heap[m]?=some (.map es since))(p:es.toList.map (·.born)=List.range since):((∀e∈es.toList,e.born∈seen)/\(Instr.next (.pointer (some ⟨it,0,none⟩)) false ty).run P w=.ok (.tuple #[.bool false]) w)\/∃e∈es.toList,e.born∉seen/\∃a,(a=w\/a=w.drew)/\(Instr.next (.pointer (some ⟨it,0,none⟩)) false ty).run P w=.ok (.tuple #[.bool true,e.key,e.val]) {a with heap:=a.heap.setIfInBounds it (.mapIter (some m) since (seen.push e.born) since)}:=by
 have hold:∀x∈es.toList,x.born<since:=λx c=>(T2 p c).1;simp only[Instr.next,getObj,mb,Sem.run,hit,hm,Result.andThen,next_test_false seen es since since hold (jM _),qa,jm]
 have i:∀x,x∈(Array.filter (λe=>!seen.contains e.born) es).toList↔x∈es.toList/\x.born∉seen:=by
  intro x;simp
 generalize Array.filter (λe=>!seen.contains e.born) es=L at i|-;have b:∀x∈L.toList,x.born<since:=λx c=>hold x ((i x).1 c).1;have q:L.filter (λx=>decide (x.born<since))=L:=Array.filter_eq_self.2 (λx c=>by simpa using b x (by simpa using c))
 have r:L.filter (λx=>decide (x.born>=since))=#[]:=by
  rw[Array.filter_eq_empty_iff];intro x c;have:=b x (by simpa using c);simp;omega
 simp only[q,r,Array.append_empty]
 by_cases n:L.size=0
 ·left;have:L=#[]:=aaW n;subst this;refine⟨?_,?_⟩
  · grind
  · simp[choose,Sem.run,Question.forced]
 ·right
  have k:L.isEmpty=false:=by simp[Array.isEmpty,n]
  simp only[k,qa,jm,Array.empty_append,Array.size_map]
  have l:∃(j:Nat) (a:World),j<L.size/\(a=w\/a=w.drew)/\(choose (Question.mapNext L.size)).run P w=.ok j a:=by
    by_cases o:L.size<=1
    ·exact⟨0,w,Zb,.inl rfl,by simp[choose,Sem.run,Question.forced,o]⟩
    ·exact⟨_,w.drew,Vx _ Zb,.inr rfl,by
      simp only[choose,Sem.run,Question.forced,j8,o,jm,Question.cut]
      rfl⟩
  obtain⟨j,a,s,d,f⟩:=l;have g:=(i L[j]).1 aae;refine⟨L[j],g.1,g.2,a,d,?_⟩
  have h:a.heap[it]?=some (.mapIter (some m) since seen since):=by
    rcases d with rfl|rfl
    ·exact hit
    ·exact hit
  have iE:∀(o':Obj),(setObj it o').run P a=.ok () {a with heap:=a.heap.setIfInBounds it o'}:=λo'=>by
    simp only[setObj,Sem.run,h]
  simp only[f,Array.getElem?_map,aaZ s,XF,mb,iE,Result.andThen];rfl
def Uh(h:WR T n B0 ρ F R fr H a w){x r:AV}{B:Value}(b:MY x H=some r)(s:kI F ρ x B):∃v,(Instr.entry B).run P w=.ok v w/\kI F ρ r v:=by
 unfold MY at b
 split at b
 ·rename_i i
  split at b
  ·rename_i o since seen hi
   split at b
   ·rename_i ks xs j I J
    split at b
    ·rename_i k v C K
     split at b
     ·rename_i L;obtain⟨hlen,t⟩:=L;injection b with b;subst b;obtain⟨rfl,M⟩:=DO s;obtain⟨X,g1,g2⟩:=h.g.sN i _ hi;obtain⟨rfl,N⟩:=g2.Td;obtain⟨O,Q,S⟩:=h.g.sN o _ I;obtain⟨es,clock,rfl,D,E,u,G,Y⟩:=S.LQ;rw[hlen] at u G;subst G;rw[<-h.hn] at E;obtain⟨U,e,y⟩:=E.get K
      have z:j<clock:=by rw[<-hlen];exact(qR.1 C).1
      have f:j<es.toList.length:=by
       have:(es.toList.map (·.key)).length=ks.length:=by rw[D]
       simp only[EB] at this;omega
      have c:es.toList[j]?=some es.toList[j]:=mr f
      have V:es.toList[j].born=j:=by
       have l:(es.toList.map (·.born))[j]?=some es.toList[j].born:=by rw[x_,c];rfl
       rw[u,acJ z] at l;exact(hZ l).symm
      have m:es.toList[j].key=k:=by
       have l:=Of D c;rw[C] at l;exact(hZ l).symm
      have q:es.toList[j].val=U:=by
       rw[x_,c] at e;exact hZ e
      have W:es.find? (·.born==j)=some es.toList[j]:=by
       rw[<-Array.find?_toList]
       have A:(es.toList.map (·.born)).Nodup:=by rw[u];exact List.nodup_range
       have:=find_born es.toList[j] es.toList A (zf f);rw[V] at this;exact this
      have d:seen.toArray.back?=some j:=by
       rw[<-J];simp
      refine⟨.tuple #[es.toList[j].key,es.toList[j].val],?_,.p (.tuple (vs:=[es.toList[j].key,es.toList[j].val]) (.cons (by rw[m];exact .sc t) (.cons (by rw[q];exact y) .nil)))⟩;simp only[Instr.entry,getObj,mb,Sem.run,g1,Q,Result.andThen,d,bne_self_eq_false,qa,jm,W];rfl
     ·cases b
    ·cases b
   ·cases b
  ·cases b
 ·cases b
def Ux{G0:Nat->Nat}{F0:rv}{n0:Nat}{w0:World}(h:WR T n w0.heap.size ρ F R fr H a w)(y:Ext w0.heap.size G0 F0 n0 w0 ρ.G F H.length w){x:AV}{V:Value}{dst:Option Nat}{K:Fr->dM->Prop}(ty:TypeId)
  (f:Rb x dst K fr H) (W:∀d,dst=some d->d<n) (z:kI F ρ x V):∃v w' fr' H',(Instr.next V false ty).run P w=.ok v w'/\K fr' H'/\SR T n G0 F0 n0 w0 fr' H' (a.put dst v) w':=by
 unfold Rb at f
 split at f
 ·rename_i i
  split at f
  ·rename_i o since seen hi
   split at f
   ·rename_i ks xs ho;obtain⟨hlen,A,B,C⟩:=f;obtain⟨rfl,aa⟩:=DO z;obtain⟨ob,g1,g2⟩:=h.g.sN i _ hi;obtain⟨rfl,D⟩:=g2.Td;obtain⟨ab,h1,h2⟩:=h.g.sN o _ ho;obtain⟨es,clock,rfl,X,E,u,Y,e5⟩:=h2.LQ;rw[hlen] at u Y;subst Y;rw[<-h.hn] at E
    have ad:es.toList.length=ks.length:=by rw[<-X];simp
    rcases QW (P:=P) w ty g1 h1 u with⟨l,c⟩|⟨e,he,I,J,k,c⟩
    ·refine⟨_,_,_,_,c,B ?_,ρ,F,R,h.put W (.p (.tuple (vs:=[.bool false]) (.cons (.sc rfl) .nil))),y⟩;intro j hj
     have m:j<es.toList.length:=Zb
     have hm:=l es.toList[j] (zf m)
     have L:(es.toList.map (·.born))[j]?=some es.toList[j].born:=by rw[x_,mr m];rfl
     rw[u,acJ Zb] at L
     have:j=es.toList[j].born:=by simpa using L
     rw[this];simpa using hm
    ·obtain⟨b1,M⟩:=T2 u he;have Z:ks[e.born]?=some e.key:=Of X M
     have N:(es.toList.map (·.val))[e.born]?=some e.val:=by rw[x_,M];rfl
     have ae:xs.length=es.toList.length:=by have:=E.length;simpa using this
     obtain⟨v,hv⟩:∃v,xs[e.born]?=some v:=⟨_,mr (by have:=(qR.1 M).1;omega)⟩;obtain⟨vv,q,O⟩:=E.get hv
     have:vv=e.val:=by rw[N] at q;simpa using q.symm
     subst this;have r:J_ e.key=true:=gR.1 A _ (AY Z);have Q:=C e.born e.key v Z hv (by simpa using I)
     have s:WR T n w0.heap.size ρ F R fr H a J:=by
      rcases k with rfl|rfl
      ·exact h
      ·exact h.drew
     have t:Ext w0.heap.size G0 F0 n0 w0 ρ.G F H.length J:=by
      rcases k with rfl|rfl
      ·exact y
      ·exact y.drew
     have S:J.heap[ρ.G i]?=some (.mapIter (some (ρ.G o)) clock seen.toArray clock):=by
      rcases k with rfl|rfl
      ·exact g1
      ·exact g1
     obtain⟨s1,s2⟩:=heap_set (o':=.mapIter (some (ρ.G o)) clock (seen.toArray.push e.born) clock) S
     have U:sQ F ρ.G ρ.n [.ue o clock (seen++[e.born])] (.mapIter (some (ρ.G o)) clock (seen.toArray.push e.born) clock):=by
      have:=sQ.iter (F:=F) (G:=ρ.G) (n:=ρ.n) (o:=o) (since:=clock) (seen:=seen++[e.born]) (by rw[h.hn];exact D);simpa using this
     refine⟨_,_,_,_,c,Q,ρ,F,R,(s.Po hi aae aae s1 s2 U).put W (.p (.tuple (vs:=[.bool true,e.key,e.val]) (.cons (.sc rfl) (.cons (.sc r) (.cons O .nil))))),?_⟩;rw[Yl];refine t.TP rfl rfl rfl aae λb L hn=>s2 b ?_;rintro rfl;exact hn i (qR.1 hi).1 rfl
   ·exact f.elim
  ·exact f.elim
 ·exact f.elim
end
end Go.tq
