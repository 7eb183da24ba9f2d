/- Part of the proof of TheoryBegins: layer. -/
import Derived.Great.BuildSlice
import Derived.Lib.AppendStr
import Derived.MapKept
import Derived.Laws.IdiomRangeMap
import Derived.Test.YtjgjcpnoaeljkaaGreatDoorAL3
set_option linter.all false
namespace Go.kQ
open Go
section
variable{B:Nat} {G G':Nat->Nat} {F F':jo} {n:Nat} {G0:Nat->Nat} {F0:jo} {n0:Nat} {w0 w w':World}
def Ext.NC(h:Ext B G0 F0 n0 w0 G F n w)(a:w'.os=w.os)(c:w'.tape=w.tape)(d:w'.output=w.output)(hs:w.heap.size<=w'.heap.size)
  (f:∀b,b<B->(∀o,o<n->G o≠b)->w'.heap[b]?=w.heap[b]?):Ext B G0 F0 n0 w0 G F n w':=
 h.trans ⟨a,c,d,hs,gV _,λ_ _=>rfl,λ_ h i=>absurd i VW,λ_ _ _ _=>rfl,λ_ _ _ _ h=>h,f⟩
def Ext.drew(h:Ext B G0 F0 n0 w0 G F n w):Ext B G0 F0 n0 w0 G F n w.drew:=h.NC rfl rfl rfl (gV _) λ_ _ _=>rfl
def Ext.alloc(h:Ext B G0 F0 n0 w0 G F n w)(a:B<=w.heap.size)(o:Obj):Ext B G0 F0 n0 w0 G F n (w.alloc o):=
 h.NC rfl rfl rfl acZ λb c _=>heap_alloc_old w o VW
def Ext.setRow(h:Ext B G0 F0 n0 w0 G F n w){g:Nat}(hg:B<=g\/∃o,o<n/\G o=g)(cs:Array Value):Ext B G0 F0 n0 w0 G F n (w.setRow g cs):=
 h.NC rfl rfl rfl (by rw[size_setRow];exact gV _) λb c hn=>setRow_other w g b cs (by
  rintro rfl;rcases hg with hg|⟨o,a,hg⟩
  .omega
  .exact hn o a hg)
def Ext.freeze(h:Ext B G0 F0 n0 w0 G F n w)(hF:∀b j,b<B->F' b j=F b j):Ext B G0 F0 n0 w0 G F' n w:=
 h.trans ⟨rfl,rfl,rfl,gV _,gV _,λ_ _=>rfl,λ_ h c=>absurd c VW,λb j a _=>hF b j a,λb j v a d=>(hF b j a).trans d,λ_ _ _=>rfl⟩
def Ext.XG(h:Ext B G0 F0 n0 w0 G F n w)(hF:∀b j,(∀o,o<n->G o≠b)->F' b j=F b j)(mF:∀b j v,F b j=some v->F' b j=some v):Ext B G0 F0 n0 w0 G F' n w:=
 h.trans ⟨rfl,rfl,rfl,gV _,gV _,λ_ _=>rfl,λ_ h a=>absurd a VW,λb j _ hg=>hF b j hg,λb j v _ c=>mF b j v c,λ_ _ _=>rfl⟩
def Ext.ae8(h:Ext B G0 F0 n0 w0 G F n w)(hG:∀o,o<n->G' o=G o)(hn:B<=G' n):Ext B G0 F0 n0 w0 G' F (n+1) w:=
 h.trans ⟨rfl,rfl,rfl,gV _,VW,hG,λo a b=>(by rw[show o=n from VW];exact hn),λ_ _ _ _=>rfl,λ_ _ _ _ h=>h,λ_ _ _=>rfl⟩
end
def SR(T:dt)(n:Nat)(G0:Nat->Nat)(F0:jo)(n0:Nat)(w0:World)(fr:Fr)(H:cZ)(a:Act)(w:World):Prop:=
 ∃ρ F R,WR T n w0.heap.size ρ F R fr H a w/\Ext w0.heap.size G0 F0 n0 w0 ρ.G F H.length w
def sH(P:Program)(fr:Fr)(H:cZ)(t:TypeId)(x:AV):Option AV:=
 match x with
 |.lD v=>if qH P t v then some v else none|.gv b g off=>if g=fr.gen b then(match fr.box b with|some cs=>lH P t cs off|none=>none)else none
 |.eb o off=>match H[o]?with|some cs=>if qF cs then lH P t cs off else none|none=>none
 |_=>none
section
variable{P:Program} {T:dt} {n B0:Nat} {ρ:Maps} {F:jo} {R:Nat->np} {fr:Fr} {H:cZ} {a:Act} {w:World}
def RQ{t:TypeId}{v:AV}(h:qH P t v=true):(∃k cs,eA P t=some (true,k)/\v=.agg cs/\cs.length=k)\/(∃k,eA P t=some (false,k)/\v.fL=true):=by
 unfold qH at h;cases a:eA P t with
 |none=>grind|some p=>
  obtain⟨b,k⟩:=p;rw[a] at h;cases b
  .cases v<;>first|(simp at h;done)|exact .inr ⟨k,rfl,rfl⟩
  .grind
def yW(w:World){t:TypeId}{b off:Nat}{cs:List AV}{vs:Array Value}{ty:TypeId}{f:Nat×Nat}{z:AV}(l:w.heap[b]?=some (.cells vs ty f))
  (a:fV (iF F ρ) cs vs.toList) (d:∀c∈cs,c.fL=true) (o:lH P t cs off=some z):∃v,(Instr.loadAt t (.pointer (some ⟨b,off,none⟩))).run P w=.ok v w/\fx F ρ z v:=by
 unfold Instr.loadAt;rcases yq o with⟨k,h,hle,rfl⟩|⟨k,h,i⟩
 .refine⟨.agg ((vs.toList.drop off).take k).toArray,?_,.agg ((a.drop off).take k) (λc i=>d c (FT (z8 i)))⟩;refine x_ h w ⟨b,off,none⟩ _ (by have:=a.length;simp only[yg,V9];omega) ?_;intro j v n;rw[Addr.add_lit,cell_of_row w b _ vs ty f l]
  grind
 .obtain⟨v,n,q⟩:=a.get i;refine⟨v,?_,.cell q⟩;refine xU h w ⟨b,off,none⟩ v ?_;rw[cell_of_row w b _ vs ty f l];simpa using n
def JU(h:WR T n B0 ρ F R fr H a w){t:TypeId}{x z:AV}{u:Value}(c:sH P fr H t x=some z)(q:fx F ρ x u):∃v,(Instr.loadAt t u).run P w=.ok v w/\fx F ρ z v:=by
 unfold sH at c
 split at c
 .rename_i v
  split at c
  .rename_i C;injection c with c;subst c;obtain⟨b,o,vs,rfl,f,r,s⟩:=DS q;unfold Instr.loadAt;simp only[Instr.sureAddr,gl,oI,jr];rcases RQ C with⟨k,cs,d,rfl,D⟩|⟨k,d,l⟩
   .refine⟨.agg vs.toArray,?_,.p (.agg f s)⟩;refine x_ d w ⟨b,o,none⟩ vs (by rw[<-f.length];exact D) ?_;intro j v G;rw[Addr.add_lit];exact h.g.BQ b _ v (r j v G)
   .rw[AV.cells_one l] at f;cases f with
    |cons f hn=>
     cases hn;rename_i u;refine⟨u,?_,.p f⟩;refine xU d w ⟨b,o,none⟩ u ?_;exact h.g.BQ b o u (r 0 u rfl)
  .cases c
 .rename_i b g off
  split at c
  .rename_i hg
   split at c
   .rename_i cs y;obtain⟨rfl,_⟩:=v8 q;obtain⟨f,r,s,vs,ty,A,i⟩:=h.box b cs y;rw[hg];exact yW w A i s c
   .cases c
  .cases c
 .rename_i o off
  split at c
  .rename_i cs y
   split at c
   .rename_i B;obtain⟨rfl,_⟩:=tQ q;obtain⟨ob,A,i⟩:=h.g.j2 o cs y;obtain⟨vs,ty,J,rfl,_,i,I⟩:=i.Cz B;rw[<-h.hn] at i;exact yW w A (i.mono λ_ _ _ h=>.p h) I c
   .cases c
  .cases c
 .cases c
def R6{w:World}{b j:Nat}{vs:Array Value}{ty:TypeId}{a:Nat×Nat}(d:w.heap[b]?=some (.cells vs ty a))(c:O2 a vs.size)(f:j<vs.size):w.frozen? ⟨b,j,none⟩=false:=by
 unfold World.frozen?;rcases c with h|h
 all_goals grind
theorem ru(P:Program)(b o:Nat)(ty:TypeId)(a:Nat×Nat):∀(us:List Value) (i:Nat) (vs:Array Value) (w:World),w.heap[b]?=some (.cells vs ty a)->O2 a vs.size->o+i+us.length<=vs.size->(∀u∈us,u.oneCell'=true)->(storeCells ⟨b,o,none⟩ us i).run P w=.ok () (w.setRow b (vs.toList.take (o+i)++us++vs.toList.drop (o+i+us.length)).toArray)
 |[],i,vs,w,c,_,_,_=>by
  have e:=setRow_self w b vs ty a c;simp only[storeCells,u7,uz,I1,List.take_append_drop,S0,e];rfl
 |u::us,i,vs,w,c,l,q,n=>by
  simp only[kL] at q
  have d:o+i<vs.size:=VW
  have r:w.cell? ⟨b,o+i,none⟩=some vs[o+i]:=by
   rw[cell_of_row w b _ vs ty a c];exact af5 d
  have hs:(store ((⟨b,o,none⟩:Addr).add i) u).run P w=.ok () (w.setRow b (vs.setIfInBounds (o+i) u)):=by
   rw[Addr.add_lit,run_store P w _ u _ (n u acZ),r];simp[R6 c l d,setCell_eq_setRow w b (o+i) vs ty a u c]
  have h:=setRow_heap w b vs (vs.setIfInBounds (o+i) u) ty a c;have ih:=ru P b o ty a us (i+1) _ _ h (by simpa using l) ado (λx s=>n x (by simp[s]));rw[storeCells];simp only[gl,hs,jr];rw[ih,setRow_setRow]
  congr 2
  apply CR.1;simp only[agb];apply U9;intro j;simp only[tD,kL,YF]
  have f:∀k,k<=vs.toList.length->(vs.toList.take k).length=k:=λk B=>by rw[yg];omega
  have t:vs.toList.length=vs.size:=acZ
  rcases ae_ j (o+i)with hj|hj|hj
  .grind
  .grind
  .have v:∀X:List Value,((vs.toList.set (o+i) u).take (o+(i+1))++X)[j]?=X[j-(o+(i+1))]?:=λX=>by
    have y:((vs.toList.set (o+i) u).take (o+(i+1))).length=o+(i+1):=by rw[yg,SV];omega
    rw[yf VW,y]
   have A:∀X:List Value,(vs.toList.take (o+i)++u::X)[j]?=X[j-(o+(i+1))]?:=λX=>by
    rw[yf (by rw[f _ VW];omega),f _ VW,show j-(o+i)=(j-(o+(i+1)))+1 by omega,lY]
   rw[v,A];rcases s8 (j-(o+(i+1))) us.length with hu|hu
   .rw[tJ hu,tJ hu]
   .rw[yf hu,yf hu,St,St,Kz VW]
    congr 1
    omega
def xZ(w:World){t:TypeId}{b off k:Nat}{bl:Bool}{vs:Array Value}{ty:TypeId}{a:Nat×Nat}{v:Value}(h:w.heap[b]?=some (.cells vs ty a))(d:O2 a vs.size)
  (f:eA P t=some (bl,k)) (i:v.cells.size=k) (c:off+k<=vs.size) (j:∀u∈v.cells.toList,u.oneCell'=true):(Instr.storeAt t (.pointer (some ⟨b,off,none⟩)) v).run P w=.ok () (w.setRow b (vs.toList.take off++v.cells.toList++vs.toList.drop (off+v.cells.toList.length)).toArray):=by
 unfold Instr.storeAt;simp only[Instr.sureAddr,gl,oI];unfold storeVar;simp only[gl,jT f,jr]
 grind[ru]
end
def ki(E:List Nat)(dst:Option Nat)(cells:List AV)(K:Fr->cZ->Prop)(fr:Fr)(H:cZ):Prop:=
 match dst with
 |some d=>
  if E.contains d then K {fr with env:=fP fr.env d (.eb H.length 0)} (H++[cells.map AV.kj])
  else K {fr with env:=fP fr.env d (.gv d (fr.gen d+1) 0),box:=fP fr.box d (some cells),gen:=fP fr.gen d (fr.gen d+1)} H
 |none=>False
def kS(P:Program)(t:TypeId)(x v:AV)(K:Fr->cZ->Prop)(fr:Fr)(H:cZ):Prop:=
 match eA P t with
 |none=>False|some (_,n)=>
  match x with
  |.gv b g off=>
   match fr.box b with
   |some cs=>g=fr.gen b/\v.cells.length=n/\off+n<=cs.length/\er v=true/\K {fr with box:=fP fr.box b (some (setCells cs off v.cells))} H|none=>False
  |.eb o off=>
   match H[o]?with
   |some cs=>qF cs=true/\v.cells.length=n/\off+n<=cs.length/\er v=true/\K fr (H.set o (setCells cs off v.norm.cells))|none=>False
  |_=>False
section
variable{P:Program} {T:dt} {n:Nat} {G0:Nat->Nat} {F0:jo} {n0:Nat} {w0:World} {fr:Fr} {H:cZ} {a:Act} {w:World}
theorem AV.rS{x:AV}(h:er x=true):x.norm.cells=x.cells.map AV.kj:=by
 cases x<;>first|rfl|(simp[er] at h)
theorem zK{cs:List AV}(h:∀c∈cs,c.fL=true):∀c∈cs.map AV.kj,c.fL=true:=by grind[AV.D8]
def iQ{F:jo}{ρ:Maps}{cs:List AV}{vs:List Value}(h:fV (iF F ρ) cs vs)(a:∀c∈cs,c.fL=true):∀u∈vs,u.oneCell'=true:=by
 intro u hu;obtain⟨x,b,d⟩:=h.mem hu;exact d.Lh (a x b)
def Eu{ρ:Maps}{F:jo}{R:Nat->np}(h:WR T n w0.heap.size ρ F R fr H a w)(s:Ext w0.heap.size G0 F0 n0 w0 ρ.G F H.length w){E:List Nat}{dst:Option Nat}{cells:List AV}{K:Fr->cZ->Prop}
  (k:ki E dst cells K fr H) (u:∀d,dst=some d->d<n) {vs:Array Value} (ty:TypeId) (l:fV (iF F ρ) cells vs.toList) (f:∀c∈cells,c.fL=true):∃fr' H',K fr' H'/\SR T n G0 F0 n0 w0 fr' H' (a.put dst (.pointer (some ⟨w.heap.size,0,none⟩))) (w.alloc (.cells vs ty)):=by
 unfold ki at k
 split at k
 .rename_i d;have o:=u d rfl;have t:=h.alloc (.cells vs ty);have b:R w.heap.size=.free:=h.k9 _ (gV _);have hF:∀j,F w.heap.size j=none:=λj=>h.g.fresh _ j (gV _);have i:(w.alloc (.cells vs ty)).heap[w.heap.size]?=some (.cells vs ty (0,0)):=heap_alloc_new w _
  split at k
  .obtain⟨ρ',q,hG,r,hw⟩:=t.abZ b hF i (l.vX AV.kj λ_ _ _ h=>h.kj) (zK f) o;refine⟨_,_,k,ρ',F,q,hw,?_⟩;rw[qj];exact(s.alloc h.qq _).ae8 hG (by rw[r];exact h.qq)
  .obtain⟨ρ',q,hG,hw⟩:=t.Z2 h.qq b hF i l f o;refine⟨_,_,k,ρ',F,q,hw,?_⟩;rw[hG];exact s.alloc h.qq _
 .exact k.elim
def QC(w:World){t:TypeId}{z:Value}(a:zeroOf P t=some z):(Instr.alloc t true (.tuple #[])).run P w=.ok (.pointer (some ⟨w.heap.size,0,none⟩)) (w.alloc (.cells z.cells t)):=by
 have b:(zeroValue t).run P w=.ok z w:=by
  unfold zeroOf at a;cases hi:P.info? t with
  |none=>rw[hi] at a;cases a
  |some i=>
   rw[hi] at a;simp at a;simp[zeroValue,typeInfo,hi,a]
 unfold Instr.alloc;simp only[gl,b];rfl
theorem AD{v:Value}(h:xk v=true)(a:∀vs,v≠ .tuple vs):(ofValue v).cells=v.cells.toList.map pS/\∀u∈v.cells.toList,u.oneCell'=true:=by
 cases v with
 |agg cs=>
  refine⟨rfl,λu hu=>?_⟩
  have b:cs.all (·.oneCell')=true:=h
  exact I3.1 b u (wD.1 hu)
 |tuple vs=>grind|_=>
  constructor
  .rw[D0 rfl];exact AV.cells_one (xw _)
  .simp[Value.cells,Value.oneCell']
def MZ{ρ:Maps}{F:jo}{R:Nat->np}(h:WR T n w0.heap.size ρ F R fr H a w)(N:Ext w0.heap.size G0 F0 n0 w0 ρ.G F H.length w){t:TypeId}{x v:AV}{O s:Value}{K:Fr->cZ->Prop}
  (i:kS P t x v K fr H) (y:fx F ρ x O) (l:fx F ρ v s):∃fr' H' w',(Instr.storeAt t O s).run P w=.ok () w'/\K fr' H'/\SR T n G0 F0 n0 w0 fr' H' a w':=by
 unfold kS at i
 split at i
 .exact i.elim
 .rename_i bl k Q
  split at i
  .rename_i b g off
   split at i
   .rename_i cs A;obtain⟨hg,V,B,f,i⟩:=i;obtain⟨rfl,_⟩:=v8 y;obtain⟨W,Y,S,vs,ty,I,r⟩:=h.box b cs A;have d:=l.cells (gU f);have hlen:=d.length
    have u:s.cells.toList.length=s.cells.size:=acZ
    have J:cs.length=vs.size:=by simpa using r.length
    have eR:=r.setCells d off;rw[hlen] at eR;rw[hg]
    have j:∀c∈setCells cs off v.cells,c.fL=true:=by
     intro c C;simp only[setCells,rl] at C;rcases C with(hm|hm)|hm
     .exact S c (z8 hm)
     .exact l.r' (gU f) c hm
     .exact S c (FT hm)
    refine⟨_,_,_,xZ w I (.inl rfl) Q VW VW (iQ d (l.r' (gU f))),i,ρ,F,R,h.VG A (by simpa using eR) j,N.setRow (.inl W) _⟩
   .exact i.elim
  .rename_i o off
   split at i
   .rename_i cs A;obtain⟨D,V,B,f,i⟩:=i;obtain⟨rfl,X⟩:=tQ y;obtain⟨ob,I,r⟩:=h.g.j2 o cs A;obtain⟨vs,ty,Z,rfl,L,r,U⟩:=r.Cz D;have d:=l.cells (gU f);have hlen:=d.length
    have u:s.cells.toList.length=s.cells.size:=acZ
    have J:cs.length=vs.size:=by simpa using r.length
    have q:fV (fD F ρ.G ρ.n) v.norm.cells s.cells.toList:=by
     rw[AV.rS f];exact d.vX AV.kj λ_ _ _ h=>h.kj
    rw[<-h.hn] at r;have eR:=r.setCells q off
    have M:v.norm.cells.length=v.cells.length:=by rw[AV.rS f];simp
    rw[M,hlen] at eR
    have j:∀c∈setCells cs off v.norm.cells,c.fL=true:=by
     intro c C;simp only[setCells,rl] at C;rcases C with(hm|hm)|hm
     .exact U c (z8 hm)
     .rw[AV.rS f] at hm;exact zK (l.r' (gU f)) c hm
     .exact U c (FT hm)
    refine⟨_,_,_,xZ w I L Q VW VW (iQ d (l.r' (gU f))),i,ρ,F,R,h.QP A D (by simpa using eR) (by simp only[setCells,qj,yg,V9];omega) j,?_⟩;rw[SV];exact N.setRow (.inr ⟨o,by rw[<-h.hn];exact X,rfl⟩) _
   .exact i.elim
  .exact i.elim
end
end Go.kQ
namespace Go.kQ
open Go
def mO(P:Program)(t:TypeId):Option (TypeId×Nat):=
 match P.underlying t with
 |some (.slice e)=>
  match P.info? e with
  |some i=>
   match i.zero with
   |some z=>if z.cells.size=i.size/\i.bytes<=256/\0<i.size/\z.cells.toList.all Value.oneCell' then some (e,i.size)else none|none=>none
  |none=>none
 |_=>none
def jm:Nat:=549755813888
section
variable{P:Program}
def mB{t e:TypeId}{sz:Nat}(h:mO P t=some (e,sz)):∃i z,P.underlying t=some (.slice e)/\P.info? e=some i/\i.zero=some z/\z.cells.size=sz/\i.size=sz/\i.bytes<=256/\0<sz:=by grind[mO]
def fill_flat{sz:Nat}:∀(pv:List Value) (k:Nat) (pre rest:List Value),(∀v∈pv,v.cells.size=sz)->pre.length=k*sz->rest.length=pv.length*sz->Instr.fill (λi=>some (i*sz,sz)) (pre++rest).toArray ((pv.zipIdx k).map λx=>(x.2,x.1))=some (pre++pv.flatMap λv=>v.cells.toList).toArray:=by
 intro pv
 induction pv with
 |nil=>
  intro k pre rest _ _ h;have:rest=[]:=Ar (by simpa using h);subst this;simp[Instr.fill]
 |cons v pv ih=>
  intro k pre rest d j h;have l:=d v acZ
  have f:v.cells.toList.length=sz:=by simp[l]
  rw[kL,AQ,Zf] at h;have a:=foldl_set v.cells.toList 0 (k*sz) (pre++rest).toArray (by simp only[YC,qj,I1];omega);simp only[I1,f] at a
  have n:(pre++rest).toArray.toList.take (k*sz)=pre:=by simp[<-j]
  have o:(pre++rest).toArray.toList.drop (k*sz+sz)=rest.drop sz:=by
   simp only[];rw[acs];rw[IB VW,oE,<-j]
   congr 1
   omega
  rw[n,o] at a;have c:=ih (k+1) (pre++v.cells.toList) (rest.drop sz) (λu hu=>d u (by simp[hu])) (by rw[qj,j,f,AQ,Zf]) (by rw[V9,h];omega);simp only[List.zipIdx_cons,Dk]
  show(if(decide (v.cells.size≠sz)||decide (k*sz+v.cells.size>(pre++rest).toArray.size)) then none
   else Instr.fill (λi=>some (i*sz,sz)) (v.cells.zipIdx.foldl (λcs (x:Value×Nat)=>cs.setIfInBounds (k*sz+x.2) x.1) (pre++rest).toArray) ((pv.zipIdx (k+1)).map λx=>(x.2,x.1)))=_
  rw[cO (by simp only[l,YC,qj];simp;omega),<-afg,aeF]
  have b:List.foldl (λcs (x:Value×Nat)=>cs.setIfInBounds (k*sz+x.2) x.1) (pre++rest).toArray v.cells.toList.zipIdx=(pre++v.cells.toList++rest.drop sz).toArray:=by
   apply CR.1;rw[a]
  rw[b,c];simp[GA,tD]
end
section
variable{T:dt} {n B0:Nat} {ρ:Maps} {F:jo} {R:Nat->np} {fr:Fr} {H:cZ} {a:Act} {w:World}
def iw(F:jo)(b k:Nat)(vs:List Value):jo:=λa j=>if a=b/\j<k then vs[j]?else F a j
def ve(F:jo)(b:Nat)(vs:List Value):(iw F b vs.length vs).has b 0 vs:=by
 intro i v a;show(if b=b/\0+i<vs.length then vs[0+i]?else F b (0+i))=some v
 grind
def WR.freeze(h:WR T n B0 ρ F R fr H a w){b:Nat}{vs:Array Value}{ty:TypeId}{k:Nat}{us:List Value}(q:R b=.free)(hF:∀j,F b j=none)
  (C:w.heap[b]?=some (.cells vs ty (0,0))) (u:GV vs) (D:∀j v,j<k->us[j]?=some v->vs[j]?=some v):tp F (iw F b k us) ρ ρ/\WR T n B0 ρ (iw F b k us) R fr H a w:=by
 have hold:∀i j v,F i j=some v->iw F b k us i j=some v:=by grind[iw]
 have f:∀i j,i≠b->iw F b k us i j=F i j:=by
  intro i j I;unfold iw;rw[cO (λh=>I h.1)]
 have s:∀G n,Grow F (iw F b k us) G G n n:=λG n=>⟨hold,gV _,λ_ _=>rfl⟩;have t:tp F (iw F b k us) ρ ρ:=⟨s _ _,λ_=>gV _,λ_ _ _=>rfl,λ_=>gV _,λ_ _ _=>rfl⟩;refine⟨t,⟨⟨?_,?_,h.g.inj,?_,?_,λg x P=>(h.g.x' g x P).grow (s _ _),?_⟩,h.size,h.defers,h.env.grow t,h.hn,h.lg,h.ag,?_,?_,?_,h.ni,h.k9,h.qq⟩⟩
 .intro i j v r;unfold iw at r
  split at r
  .rename_i Q;obtain⟨rfl,S⟩:=Q;rw[cell_of_row w i j vs ty (0,0) C];exact D j v S r
  .exact h.g.BQ i j v r
 .intro o cs y;obtain⟨J,A,B⟩:=h.g.j2 o cs y;exact⟨J,A,B.grow (s _ _)⟩
 .intro o j y K;rw[f]
  .exact h.g.gF o j y K
  .rintro rfl;have:=h.ni o y;rw[q] at this;cases this
 .intro i j l;rw[f]
  .exact h.g.fresh i j l
  .rintro rfl;have:=ou C;omega
 .intro U i j v r
  by_cases l:i=b
  .subst l;exact⟨vs,ty,_,C,.inl rfl,u⟩
  .rw[f _ _ l] at r;exact h.g.row U i j v r
 .intro d cs V;obtain⟨A,B,M,vs',L,N,O⟩:=h.box d cs V;exact⟨A,B,M,vs',L,N,O.mono λ_ _ _ h=>h.grow t⟩
 .intro k' m W i c sz X;obtain⟨A,B,M,Y,N,O⟩:=h.tok k' m W i c sz X
  grind
 .intro i j v r
  by_cases l:i=b
  .subst l;rw[q];simp
  .rw[f _ _ l] at r;exact h.qN i j v r
def ll{F:jo}{b k:Nat}{us:List Value}{a j:Nat}(h:a≠b):iw F b k us a j=F a j:=by grind[iw]
end
def me(P:Program)(t n:Nat)(parts:List (Nat×AV)):Option AV:=
 match mO P t with
 |some (_,sz)=>
  if parts.map (·.1)=List.range n/\parts.all (λp=>p.2.cells.length==sz&&er p.2)=true/\n*sz<=16777216 then some (.slice .full (parts.map λp=>p.2.norm))else none
 |none=>none
def ED{α:Type}(parts:List (Nat×α))(n:Nat)(h:parts.map (·.1)=List.range n):parts=(parts.map (·.2)).zipIdx.map λx=>(x.2,x.1):=by
 apply List.ext_getElem
 .simp
 .intro i a b
  have c:(parts.map (·.1))[i]?=(List.range n)[i]?:=by rw[h]
  grind
section
variable{P:Program} {T:dt} {n:Nat} {G0:Nat->Nat} {F0:jo} {n0:Nat} {w0:World} {fr:Fr} {H:cZ} {a:Act} {w:World}
def EH(w:World){t e:TypeId}{sz:Nat}(h:mO P t=some (e,sz)):(Instr.buildSlice t 0 #[]).run P w=.ok (.slice (some ⟨w.heap.size,0,none⟩) 0 0) (w.alloc (.cells #[] e)):=by
 obtain⟨i,z,hu,hi,a,_⟩:=mB h;simp[Instr.buildSlice,run_underlying hu,sizeOf,typeInfo,hi,Instr.fill,newRow]
 grind
def OU{F:jo}{ρ:Maps}:∀{parts:List (Nat×AV)} {pv:List (Nat×Value)},fV (λ(x:Nat×AV) (y:Nat×Value)=>x.1=y.1/\fx F ρ x.2 y.2) parts pv->(∀p∈parts,er p.2=true)->fV (fD F ρ.G ρ.n) ((parts.map λp=>p.2.norm).flatMap AV.cells) ((pv.map (·.2)).flatMap λv=>v.cells.toList)/\∀c∈(parts.map λp=>p.2.norm).flatMap AV.cells,c.fL=true:=by
 intro parts pv h hn
 induction h with
 |nil=>exact⟨.nil,acZ⟩|@cons p q ps j d _ ih=>
  obtain⟨i1,i2⟩:=ih λp f=>hn p (by simp[f]);have a:=hn p acZ;have i:=d.2.cells (gU a);have k:=d.2.r' (gU a)
  have b:fV (fD F ρ.G ρ.n) p.2.norm.cells q.2.cells.toList:=by
   rw[AV.rS a];exact i.vX AV.kj λ_ _ _ h=>h.kj
  refine⟨?_,?_⟩
  .exact b.append i1
  .grind[AV.rS,zK]
def yO{ρ:Maps}{F:jo}(w:World){t k:Nat}{parts:List (Nat×AV)}{pv:List (Nat×Value)}{r:AV}
  (f:me P t k parts=some r) (b:fV (λ(x:Nat×AV) (y:Nat×Value)=>x.1=y.1/\fx F ρ x.2 y.2) parts pv):∃l us e sz,r=.slice .full l/\l.length=k/\k<=maxLen/\(∀x∈l,x.cells.length=sz)/\fV (fD F ρ.G ρ.n) (l.flatMap AV.cells) us/\(∀c∈l.flatMap AV.cells,c.fL=true)/\(Instr.buildSlice t k pv.toArray).run P w=.ok (.slice (some ⟨w.heap.size,0,none⟩) k k) (w.alloc (.cells us.toArray e)):=by
 unfold me at f
 split at f
 .rename_i e sz C
  split at f
  .rename_i O;obtain⟨j,D,Q⟩:=O;injection f with f;subst f;obtain⟨i,z,hu,hi,R,S,o,T,h⟩:=mB C
   have a:∀p∈parts,p.2.cells.length=sz/\er p.2=true:=by
    intro p B;have:=j3.1 D p B;simpa using this
   have s:parts.length=k:=by have:=congrArg List.length j;simpa using this
   have u:pv.length=k:=by rw[<-b.length];exact s
   have H:pv.map (·.1)=List.range k:=by
    rw[<-j];clear j D a s u
    induction b with
    |nil=>rfl|cons K _ ih=>simp only[Dk,ih,K.1]
   have I:=ED pv k H
   have L:∀v∈pv.map (·.2),v.cells.size=sz:=by
    intro v U;obtain⟨q,V,rfl⟩:=nj.1 U;obtain⟨p,B,W⟩:=b.mem V;have K:=W.2.cells (gU (a p B).2);have:=K.length;rw[(a p B).1] at this;simpa using this.symm
   obtain⟨A,d⟩:=OU b λp B=>(a p B).2
   have J:(Instr.buildSlice t k pv.toArray).run P w=.ok (.slice (some ⟨w.heap.size,0,none⟩) k k) (w.alloc (.cells ((pv.map (·.2)).flatMap λv=>v.cells.toList).toArray e)):=by
    rcases Nat.eq_zero_or_pos k with M|hkpos
    .subst M;have:pv=[]:=Ar u;subst this;exact EH w C
    .have N:=fill_flat (sz:=sz) (pv.map (·.2)) 0 [] ((Array.range (k*sz)).map (z.cells[· %z.cells.size]!)).toList L acZ (by simp[u])
     rw[<-I] at N;simp only[oE,S0] at N;exact run_buildSlice w t e k pv.toArray _ i z hu hi R (by rw[o];omega) (by rw[o];have:=Nat.mul_pos hkpos h;omega) (by rw[o];exact N)
   refine⟨parts.map λp=>p.2.norm,_,e,sz,rfl,by simp[s],?_,?_,A,d,J⟩
   .have:k<=k*sz:=ac1 k h;simp only[maxLen];omega
   .grind[AV.rS]
  .cases f
 .cases f
def yH{ρ:Maps}{F:jo}{R:Nat->np}(h:WR T n w0.heap.size ρ F R fr H a w)(A:Ext w0.heap.size G0 F0 n0 w0 ρ.G F H.length w){k e sz:Nat}{l:List AV}{us:List Value}
  {dst:Option Nat} (t:l.length=k) (w6:k<=maxLen) (r:∀x∈l,x.cells.length=sz) (f:fV (fD F ρ.G ρ.n) (l.flatMap AV.cells) us) (i:∀c∈l.flatMap AV.cells,c.fL=true) (B:∀d,dst=some d->d<n):SR T n G0 F0 n0 w0 (fr.put dst (.slice .full l)) H (a.put dst (.slice (some ⟨w.heap.size,0,none⟩) k k)) (w.alloc (.cells us.toArray e)):=by
 have q:=heap_alloc_new w (.cells us.toArray e);obtain⟨s,hw⟩:=(h.alloc (.cells us.toArray e)).freeze (us:=us) (k:=us.length) (h.k9 _ (gV _)) (λj=>h.g.fresh _ j (gV _)) q (λu hu=>iQ (f.mono λ_ _ _ h=>iF.p h) i u (by simpa using hu)) (by intro j v _ C;simpa using C);refine⟨ρ,_,R,hw.put B (x:=.slice .full l) (v:=.slice (some ⟨w.heap.size,0,none⟩) k k) ?_,?_⟩
 .have y:=fD.slice (F:=iw F w.heap.size us.length us) (G:=ρ.G) (n:=ρ.n) (tag:=.full) (l:=l) (b:=w.heap.size) (o:=0) (base:=some ⟨w.heap.size,0,none⟩) (cap:=l.length) (sz:=sz)
   (.oC (f.mono λ_ _ _ h=>h.grow s.g)) (ve _ _ _) (λ_=>rfl) r i (gV _) (by rw[t];exact w6) (.inr ⟨rfl,rfl⟩)
  rw[t] at y;exact .p y
 .exact(A.alloc h.qq (.cells us.toArray e)).freeze (F':=iw F w.heap.size us.length us) λb j D=>ll (by have:=h.qq;omega)
def De{ρ:Maps}{F:jo}{R:Nat->np}(h:WR T n w0.heap.size ρ F R fr H a w)(o:Ext w0.heap.size G0 F0 n0 w0 ρ.G F H.length w){t k:Nat}{parts:List (Nat×AV)}{pv:List (Nat×Value)}{r:AV}
  {dst:Option Nat} (q:me P t k parts=some r) (c:fV (λ(x:Nat×AV) (y:Nat×Value)=>x.1=y.1/\fx F ρ x.2 y.2) parts pv) (s:∀d,dst=some d->d<n):∃v w',(Instr.buildSlice t k pv.toArray).run P w=.ok v w'/\SR T n G0 F0 n0 w0 (fr.put dst r) H (a.put dst v) w':=by
 obtain⟨l,us,e,sz,rfl,u,w6,j,b,f,i⟩:=yO w q c;exact⟨_,_,i,yH h o u w6 j b f s⟩
end
def oz(fr:Fr)(tag:Tag)(l:List AV):Bool:=
 match tag with
 |.iB=>false|.full=>true|.loc k g=>g==fr.ef k&&fr.qn k==some l.length
def tw(tag:Tag)(qn:Nat->Option Nat):Nat->Option Nat:=
 match tag with
 |.loc k _=>fP qn k none|_=>qn
def grown(fr:Fr)(d:Nat)(tag:Tag)(l m:List AV):Fr:=
 {fr with env:=fP fr.env d (.slice (.loc d (fr.ef d+1)) (l++m)),qn:=fP (tw tag fr.qn) d (some (l.length+m.length)),ef:=fP fr.ef d (fr.ef d+1)}
def mc(P:Program)(T:dt)(c:Call)(dst:Option Nat)(K:Fr->cZ->Prop)(fr:Fr)(H:cZ):Prop:=
 match dst,c.args.toList,c.argTypes.toList with
 |some d,[s,x],[t,a]=>
  match mO P t,ev T fr s,ev T fr x with
  |some (_,sz),.slice tag l,.slice _ m=>
   a=t/\kJ sz l=true/\kJ sz m=true/\l.length+m.length<=jm/\(if oz fr tag l then K (grown fr d tag l m) H else m=[]/\K (fr.put (some d) (.slice .iB l)) H)
  |_,_,_=>False
 |_,_,_=>False
section
variable{P:Program} {T:dt} {n:Nat} {G0:Nat->Nat} {F0:jo} {n0:Nat} {w0:World} {fr:Fr} {H:cZ} {a:Act} {w:World}
def EN(w:World){t e:TypeId}{sz:Nat}(h:mO P t=some (e,sz))(ty:TypeId)(base:Option Addr)(len cap:Nat)(a:len<=cap)(x:Value)(f:∃b c,x=.slice b 0 c):(Builtin.append_ #[t,t] ty #[.slice base len cap,x]).run P w=.ok (.slice base len cap) w:=by
 obtain⟨i,z,hu,hi,o,j,k,l,d⟩:=mB h;obtain⟨b,c,rfl⟩:=f;cases b with
 |none=>
  cases base with
  |none=>simp[Builtin.append_,run_underlying hu,sizeOf,typeInfo,hi,Builtin.lenOf,a,Builtin.firstCells]|some n=>simp[Builtin.append_,run_underlying hu,sizeOf,typeInfo,hi,Builtin.lenOf,a,Builtin.firstCells,storeCells]
 |some b=>
  cases base with
  |none=>simp[Builtin.append_,run_underlying hu,sizeOf,typeInfo,hi,Builtin.lenOf,a,Builtin.firstCells,loadCells,loadCellsFrom]|some n=>simp[Builtin.append_,run_underlying hu,sizeOf,typeInfo,hi,Builtin.lenOf,a,Builtin.firstCells,storeCells,loadCells,loadCellsFrom]
theorem wU(w:World)(t ty e n:TypeId)(i:TypeInfo)(o:P.underlying t=some (.slice e))(hi:P.info? e=some i)
  (g b d:Nat) (cur:Array Value) (hg:w.heap[g]?=some (.cells cur n (0,0)))
  (a:Addr) (m c:Nat) (news:List Value) (q:news.length=m*i.size) (f:∀j u,news[j]?=some u->w.cell? (a.add j)=some u) (r:∀u∈news,u.oneCell'=true)
  (h:b+m<=d) (k:b*i.size+news.length<=cur.size):(Builtin.append_ #[t,t] ty #[.slice (some ⟨g,0,none⟩) b d,.slice (some a) m c]).run P w=.ok (.slice (some ⟨g,0,none⟩) (b+m) d) (w.setRow g (cur.toList.take (b*i.size)++news++cur.toList.drop (b*i.size+news.length)).toArray):=by
 have s:=run_firstCells_some (P:=P) w i.size m a m c news q f;have l:=run_storeCells_at P g (b*i.size) n news 0 cur w hg (by simpa using k) r;simp[Builtin.append_,run_underlying o,sizeOf,typeInfo,hi,Builtin.lenOf,h,s,Addr.add_lit,l]
def WR.rename{ρ:Maps}{F:jo}{R:Nat->np}{B0:Nat}(h:WR T n B0 ρ F R fr H a w){tag:Tag}{l:List AV}{base:Option Addr}{cap d:Nat}(hd:d<n)
  (hp:fD F ρ.G ρ.n (.slice .iB l) (.slice base l.length cap)) (K:tag=.full/\cap=l.length\/∃k g,tag=.loc k g/\g=fr.ef k/\fr.qn k=some l.length/\tk ρ k g l base cap):∃ρ' S,ρ'.G=ρ.G/\ρ'.n=ρ.n/\(∀k g,tag=.loc k g->ρ'.A d (fr.ef d+1)=ρ.A k g)/\ρ'.ag d=fr.ef d+1/\WR T n B0 ρ' F S (grown fr d tag l []) H (a.put (some d) (.slice base l.length cap)) w:=by
 let f:Option (Nat×Nat×Nat):=match tag with|.loc k g=>ρ.A k g|_=>none
 let ρ':Maps:={ρ with A:=rH ρ.A d (fr.ef d+1) f,ag:=fP ρ.ag d (fr.ef d+1)}
 let S:Nat->np:=match f with|some (b,_,_)=>fP R b (.arr d)|none=>R
 have u:tp F F ρ ρ':=by
  refine⟨.refl,λ_=>gV _,λ_ _ _=>rfl,λk=>?_,λk g hg=>?_⟩
  .show ρ.ag k<=fP ρ.ag d (fr.ef d+1) k;unfold fP
   split
   .rename_i U;subst U;rw[h.ag];omega
   .exact gV _
  .show rH ρ.A d (fr.ef d+1) f k g=ρ.A k g;unfold rH;rw[cO];rintro⟨rfl,rfl⟩;rw[h.ag] at hg;omega
 have i:∀b c sz,f=some (b,c,sz)->∃k g,tag=.loc k g/\g=fr.ef k/\fr.qn k=some l.length/\ρ.A k (fr.ef k)=some (b,c,sz)/\base=some ⟨b,0,none⟩/\cap=c/\∀x∈l,x.cells.length=sz:=by
  intro b c sz q;rcases K with⟨rfl,_⟩|⟨k,g,rfl,rfl,y,M⟩
  .exact absurd q (by simp[f])
  .refine⟨k,_,rfl,rfl,y,q,?_⟩;unfold tk at M;have W:ρ.A k (fr.ef k)=some (b,c,sz):=q;rw[W] at M;exact M
 have B:∀I,(∀k,R I≠ .arr k)->S I=R I:=by
  intro I X;show(match f with|some (b,_,_)=>fP R b (.arr d)|none=>R) I=R I;cases q:f with
  |none=>rfl|some p=>
   obtain⟨b,c,sz⟩:=p;obtain⟨k,g,_,_,y,r,_⟩:=i b c sz q;have J:=(h.tok k _ y b c sz r).2.1;simp only[fP];rw[cO];rintro rfl;exact X k J
 have N:tk ρ' d (fr.ef d+1) l base cap:=by grind[tk,rH]
 refine⟨ρ',S,rfl,rfl,?_,by show fP ρ.ag d (fr.ef d+1) d=_;simp[fP],⟨⟨h.g.BQ,h.g.j2,h.g.inj,h.g.gF,h.g.fresh,h.g.x',h.g.row⟩,by rw[CI];exact h.size,by rw[put_defers];exact h.defers,?_,h.hn,h.lg,?_,?_,?_,?_,?_,?_,h.qq⟩⟩
 .rintro k g rfl;show rH ρ.A d (fr.ef d+1) f d (fr.ef d+1)=ρ.A k g;simp[rH,f]
 .have h0:=(h.env.grow u).put (d:=some d) (by intro C he;injection he with he;subst he;rw[h.size];exact hd) (x:=.slice (.loc d (fr.ef d+1)) l) (v:=.slice base l.length cap)
   (.cell (.loc (hp.grow u.g) (by show _<=fP ρ.ag d (fr.ef d+1) d;simp[fP]) N))
  simp only[grown,u7];exact h0
 .intro k;show fP ρ.ag d (fr.ef d+1) k=fP fr.ef d (fr.ef d+1) k;unfold fP
  split
  .rfl
  .exact h.ag k
 .intro C cs Y;obtain⟨h1,h2,h3,vs,ty,h4,h5⟩:=h.box C cs Y;exact⟨h1,by rw[B _ (by intro k;show R (ρ.L C (fr.gen C))≠_;rw[h2];simp)];exact h2,h3,vs,ty,h4,h5.mono λ_ _ _ h=>h.grow u⟩
 .intro k m s b c sz q;simp only[grown,fP] at s
  by_cases t:k=d
  .subst t;simp only[if_true,uz,I1,u9] at s;subst s
   have O:(grown fr k tag l []).ef k=fr.ef k+1:=by simp[grown,fP]
   rw[O] at q
   have V:ρ'.A k (fr.ef k+1)=f:=by show rH ρ.A k (fr.ef k+1) f k (fr.ef k+1)=f;simp[rH]
   rw[V] at q;obtain⟨k2,g2,_,_,y,r,ao,aq,ar⟩:=i b c sz q;obtain⟨O,V,Z,ad,P,e5⟩:=h.tok k2 _ y b c sz r;refine⟨O,?_,Z,ad,P,e5⟩;show(match f with|some (b,_,_)=>fP R b (.arr k)|none=>R) b=.arr k;rw[q];simp[fP]
  .simp only[cO t] at s
   have O:(grown fr d tag l []).ef k=fr.ef k:=by simp[grown,fP,t]
   rw[O] at q
   have V:ρ'.A k (fr.ef k)=ρ.A k (fr.ef k):=by show rH ρ.A d (fr.ef d+1) f k (fr.ef k)=_;simp[rH,t]
   rw[V] at q
   have Q:fr.qn k=some m/\∀k2 g2,tag=.loc k2 g2->k≠k2:=by
    unfold tw at s
    split at s
    .rename_i k2 g2;simp only[fP] at s
     split at s
     .cases s
     .rename_i ae;refine⟨s,λk3 g3 he=>?_⟩;injection he with af aw;subst af;exact ae
    .rename_i ah;exact⟨s,λk3 g3 he=>absurd he (ah k3 g3)⟩
   obtain⟨Z,P,e5,ai,e6,e7⟩:=h.tok k m Q.1 b c sz q;refine⟨Z,?_,e5,ai,e6,e7⟩;show(match f with|some (b,_,_)=>fP R b (.arr d)|none=>R) b=.arr k;cases ak:f with
   |none=>exact P|some p=>
    obtain⟨b3,c3,D⟩:=p;obtain⟨k2,g2,an,_,y,r,_⟩:=i b3 c3 D ak;have J:=(h.tok k2 _ y b3 c3 D r).2.1;simp only[fP];rw[cO]
    .exact P
    .rintro rfl;rw[P] at J;injection J with J;exact Q.2 k2 g2 an J
 .intro b j v hf;intro C;have U:=h.qN b j v hf C;show(match f with|some (b,_,_)=>fP R b (.arr d)|none=>R) b≠ .box C;cases q:f with
  |none=>exact U|some p=>
   obtain⟨b3,c3,D⟩:=p;simp only[fP]
   split
   .simp
   .exact U
 .intro o M;have:=h.ni o M;rw[B _ (by intro k;show R (ρ.G o)≠_;rw[this];simp)];exact this
 .intro b hb;have:=h.k9 b hb;rw[B b (by rw[this];simp)];exact this
end
end Go.kQ
namespace Go.kQ
open Go
theorem Ld{α:Type}(f:Nat->α)(i:Nat)(x y:α):fP (fP f i x) i y=fP f i y:=by grind[fP]
theorem zc{α:Type}(f:Nat->α)(i j:Nat)(x:α)(h:j≠i):fP f i x j=f j:=by simp[fP,h]
def vC{a:Array Value}(h:∀u∈a.toList,u.oneCell'=true)(b:0<a.size)(k:Nat):∀u∈(Builtin.zeroCells a k).toList,u.oneCell'=true:=by
 intro u hu;unfold Builtin.zeroCells at hu;simp only[Mu,nj] at hu;obtain⟨i,_,rfl⟩:=hu;have c:i%a.size<a.size:=Zk _ b
 grind
def MU{P:Program}{t e:TypeId}{sz:Nat}(h:mO P t=some (e,sz)){i:TypeInfo}{z:Value}(hi:P.info? e=some i)(a:i.zero=some z):∀u∈z.cells.toList,u.oneCell'=true:=by grind[mO]
section
variable{P:Program} {T:dt} {n B0:Nat} {ρ:Maps} {F:jo} {R:Nat->np} {fr:Fr} {H:cZ} {a:Act} {w:World}
def WR.extend(h:WR T n B0 ρ F R fr H a w){d p q b c sz:Nat}{news:List Value}(ht:fr.qn d=some p)(hA:ρ.A d (fr.ef d)=some (b,c,sz))(hq:news.length=q*sz)(L:p+q<=c)(C:∀u∈news,u.oneCell'=true)
  {cur:Array Value} {ty:TypeId} (S:w.heap[b]?=some (.cells cur ty (0,0))):∃F',tp F F' ρ ρ/\(∀f j,f≠b->F' f j=F f j)/\(∀(j:Nat) (v:Value),news[j]?=some v->F' b (p*sz+j)=some v)/\WR T n B0 ρ F' R {fr with qn:=fP fr.qn d (some (p+q))} H a (w.setRow b (cur.toList.take (p*sz)++news++cur.toList.drop (p*sz+news.length)).toArray):=by
 obtain⟨h1,h2,h3,an,⟨vs,s,U,h5,M⟩,h6⟩:=h.tok d p ht b c sz hA;rw[S] at U;injection U with U;injection U with e1 e2;subst e1;subst e2;have V:(p+q)*sz<=c*sz:=Gg _ L;rw[AQ] at V
 have W:p*sz<=cur.toList.length:=ado
 let F':jo:=λf j=>if f=b/\p*sz<=j/\j<p*sz+news.length then news[j-p*sz]?else F f j
 have hold:∀f j v,F f j=some v->F' f j=some v:=by
  intro f j v r;show(if f=b/\p*sz<=j/\j<p*sz+news.length then news[j-p*sz]?else F f j)=some v;rw[cO]
  .exact r
  .rintro⟨rfl,K,_⟩;rw[h6 j K] at r;cases r
 have i:∀f j,f≠b->F' f j=F f j:=by
  intro f j t;show(if f=b/\p*sz<=j/\j<p*sz+news.length then news[j-p*sz]?else F f j)=F f j;rw[cO (λh=>t h.1)]
 have N:∀(j:Nat) (v:Value),news[j]?=some v->F' b (p*sz+j)=some v:=by
  intro j v hv;have K:=(mH.1 hv).1;show(if b=b/\p*sz<=p*sz+j/\p*sz+j<p*sz+news.length then news[p*sz+j-p*sz]?else F b (p*sz+j))=some v;rw[cS ⟨rfl,VW,VW⟩,Nat.add_sub_cancel_left];exact hv
 have D:∀G n,Grow F F' G G n n:=λG n=>⟨hold,gV _,λ_ _=>rfl⟩;have I:tp F F' ρ ρ:=⟨D _ _,λ_=>gV _,λ_ _ _=>rfl,λ_=>gV _,λ_ _ _=>rfl⟩
 have y:∀f,R f≠ .arr d->f≠b:=by rintro f l rfl;exact l h2
 have O:GV (cur.toList.take (p*sz)++news++cur.toList.drop (p*sz+news.length)).toArray:=by
  intro u hu;simp only[rl] at hu;rcases hu with(hu|hu)|hu
  .exact M u (z8 hu)
  .exact C u hu
  .exact M u (FT hu)
 have B:=setRow_heap w b cur (cur.toList.take (p*sz)++news++cur.toList.drop (p*sz+news.length)).toArray ty (0,0) S;refine⟨F',I,i,N,⟨⟨?_,?_,h.g.inj,?_,?_,λg x hx=>(h.g.x' g x hx).grow (D _ _),?_⟩,h.size,h.defers,h.env.grow I,h.hn,h.lg,h.ag,?_,?_,?_,h.ni,?_,by rw[size_setRow];exact h.qq⟩⟩
 .intro f j v r
  by_cases l:f=b
  .subst l;rw[cell_of_row _ f j _ ty (0,0) B];simp only[af'];change (if f=f/\p*sz<=j/\j<p*sz+news.length then news[j-p*sz]?else F f j)=some v at r
   split at r
   .rename_i hc;rw[tD,yf (by rw[yg];omega),yg,Ti W,tJ VW];exact r
   .rename_i hc
    have K:j<p*sz:=by
     rcases s8 j (p*sz)with h'|h'
     .exact h'
     .rw[h6 j h'] at r;cases r
    have:=h.g.BQ f j v r;rw[cell_of_row w f j cur ty (0,0) S] at this;rw[tD,tJ (by rw[yg];omega),NB,cS K];simpa using this
  .rw[cell_setRow_other _ _ _ _ _ l];rw[i _ _ l] at r;exact h.g.BQ f j v r
 .intro o cs P;obtain⟨X,g1,g2⟩:=h.g.j2 o cs P;refine⟨X,?_,g2.grow (D _ _)⟩;rw[setRow_other]
  .exact g1
  .exact y _ (by rw[h.ni o (mH.1 P).1];simp)
 .intro o j P Y;rw[i]
  .exact h.g.gF o j P Y
  .exact y _ (by rw[h.ni o P];simp)
 .intro f j l;rw[size_setRow] at l;rw[i]
  .exact h.g.fresh f j l
  .rintro rfl;have:=ou S;omega
 .intro hT f j v r
  by_cases l:f=b
  .subst l;exact⟨_,ty,_,B,.inl rfl,O⟩
  .rw[i _ _ l] at r;obtain⟨Z,ad,ae,g1,g2⟩:=h.g.row hT f j v r;exact⟨Z,ad,ae,by rw[setRow_other _ _ _ _ l];exact g1,g2⟩
 .intro d' cs af;obtain⟨g1,g2,g3,vs',s,g4,g5⟩:=h.box d' cs af;refine⟨g1,g2,g3,vs',s,?_,g5.mono λ_ _ _ h=>h.grow I⟩;rw[setRow_other]
  .exact g4
  .exact y _ (by rw[g2];simp)
 .intro k m Q f c' ah ai;simp only[fP] at Q
  by_cases J:k=d
  .subst J;simp only[if_true,u9] at Q;subst Q
   grind
  .simp only[cO J] at Q;obtain⟨g1,g2,g3,ak,⟨vs',s,g4,g5⟩,g6⟩:=h.tok k m Q f c' ah ai;have t:f≠b:=y _ (by rw[g2];simp[J]);refine⟨g1,g2,g3,ak,⟨vs',s,by rw[setRow_other _ _ _ _ t];exact g4,g5⟩,λj K=>?_⟩;rw[i _ _ t];exact g6 j K
 .intro f j v r
  by_cases l:f=b
  .subst l;rw[h2];simp
  .rw[i _ _ l] at r;exact h.qN f j v r
 .intro f l;rw[size_setRow] at l;exact h.k9 f l
def WR.UD(h:WR T n B0 ρ F R fr H a w){b:Nat}{vs:Array Value}{ty:TypeId}{us:List Value}{c sz:Nat}{tag:Tag}{l m:List AV}{d:Nat}(hd:d<n)(hb:B0<=b)(q:R b=.free)
  (hF:∀j,F b j=none) (X:w.heap[b]?=some (.cells vs ty (0,0))) (B:GV vs) (Y:vs.size=c*sz) (Z:0<l.length+m.length) (hp:l.length+m.length<=c) (hc:c<=maxLen) (ak:us.length=(l.length+m.length)*sz)
  (K:∀(j:Nat) (v:Value),us[j]?=some v->vs[j]?=some v) (t:fI F ρ.G ρ.n ((l++m).flatMap AV.cells) us) (M:∀x∈(l++m).flatMap AV.cells,x.fL=true) (N:∀x∈l++m,x.cells.length=sz):∃ρ' O,ρ'.G=ρ.G/\WR T n B0 ρ' (iw F b us.length us) O (grown fr d tag l m) H (a.put (some d) (.slice (some ⟨b,0,none⟩) (l.length+m.length) c)) w:=by
 obtain⟨C,P⟩:=h.freeze (k:=us.length) (us:=us) q hF X B (λj v _ hv=>K j v hv)
 let ρ':Maps:={ρ with A:=rH ρ.A d (fr.ef d+1) (some (b,c,sz)),ag:=fP ρ.ag d (fr.ef d+1)}
 let O:Nat->np:=fP R b (.arr d)
 have u:tp F (iw F b us.length us) ρ ρ':=by
  refine⟨C.g,λ_=>gV _,λ_ _ _=>rfl,λk=>?_,λk g hg=>?_⟩
  .show ρ.ag k<=fP ρ.ag d (fr.ef d+1) k;unfold fP
   split
   .rename_i h';subst h';rw[h.ag];omega
   .exact gV _
  .show rH ρ.A d (fr.ef d+1) (some (b,c,sz)) k g=ρ.A k g;unfold rH;rw[cO];rintro⟨rfl,rfl⟩;rw[h.ag] at hg;omega
 have D:tp (iw F b us.length us) (iw F b us.length us) ρ ρ':=⟨.refl,u.lg,u.L,u.ag,u.A⟩
 have r:∀f,R f≠ .free->O f=R f:=by
  intro f i;show fP R b (.arr d) f=R f;unfold fP;rw[cO];rintro rfl;exact i q
 have an:∀f,R f≠ .free->f≠b:=by rintro f i rfl;exact i q
 refine⟨ρ',O,rfl,⟨P.g,by rw[CI];exact h.size,by rw[put_defers];exact h.defers,?_,h.hn,h.lg,?_,?_,?_,?_,?_,?_,h.qq⟩⟩
 .have Q:fx (iw F b us.length us) ρ' (.slice (.loc d (fr.ef d+1)) (l++m)) (.slice (some ⟨b,0,none⟩) (l.length+m.length) c):=by
   have hlen:(l++m).length=l.length+m.length:=qj
   have S:=fD.slice (F:=iw F b us.length us) (G:=ρ'.G) (n:=ρ'.n) (tag:=.iB) (l:=l++m) (b:=b) (o:=0) (base:=some ⟨b,0,none⟩) (cap:=c) (sz:=sz)
    (t.grow C.g) (ve F b us) (λ_=>rfl) N M VW hc (.inl rfl)
   rw[hlen] at S;rw[<-hlen];refine .cell (.loc (by rw[hlen];exact S) (by show _<=fP ρ.ag d (fr.ef d+1) d;simp[fP]) ?_);unfold tk
   have e:ρ'.A d (fr.ef d+1)=some (b,c,sz):=by show rH ρ.A d (fr.ef d+1) (some (b,c,sz)) d (fr.ef d+1)=_;simp[rH]
   rw[e];exact⟨rfl,rfl,N⟩
  have h1:=(P.env.grow D).put (d:=some d) (by intro U he;injection he with he;subst he;rw[h.size];exact hd) Q;exact h1
 .intro k;show fP ρ.ag d (fr.ef d+1) k=fP fr.ef d (fr.ef d+1) k;unfold fP
  split
  .rfl
  .exact h.ag k
 .intro U cs ad;obtain⟨h1,h2,h3,vs',ae,h4,h5⟩:=P.box U cs ad;exact⟨h1,by rw[r _ (by show R (ρ.L U (fr.gen U))≠_;rw[h2];simp)];exact h2,h3,vs',ae,h4,h5.mono λ_ _ _ h=>h.grow D⟩
 .intro k m' s f c' af I;simp only[grown,fP] at s
  by_cases y:k=d
  .subst y;simp only[if_true,u9] at s;subst s
   have V:(grown fr k tag l m).ef k=fr.ef k+1:=by simp[grown,fP]
   rw[V] at I
   have J:ρ'.A k (fr.ef k+1)=some (b,c,sz):=by show rH ρ.A k (fr.ef k+1) (some (b,c,sz)) k (fr.ef k+1)=_;simp[rH]
   rw[J] at I;injection I with I;injection I with V J;injection J with J e3;subst V;subst J;subst e3;refine⟨hb,by show fP R b (.arr k) b=.arr k;simp[fP],⟨Z,hp⟩,hc,⟨vs,ty,X,Y,B⟩,λj hj=>?_⟩;show(if b=b/\j<us.length then us[j]?else F b j)=none;rw[cO VW];exact hF j
  .simp only[cO y] at s
   have V:(grown fr d tag l m).ef k=fr.ef k:=by simp[grown,fP,y]
   rw[V] at I
   have J:ρ'.A k (fr.ef k)=ρ.A k (fr.ef k):=by show rH ρ.A d (fr.ef d+1) _ k (fr.ef k)=_;simp[rH,y]
   rw[J] at I
   have ah:fr.qn k=some m':=by
    unfold tw at s
    split at s
    .simp only[fP] at s
     split at s
     .cases s
     .exact s
    .exact s
   obtain⟨e3,e4,e5,ai,e6,e7⟩:=P.tok k m' ah f c' af I;exact⟨e3,by rw[r _ (by rw[e4];simp)];exact e4,e5,ai,e6,e7⟩
 .intro f j v hf
  by_cases i:f=b
  .subst i;intro U;show fP R f (.arr d) f≠_;simp[fP]
  .have e:O f=R f:=by show fP R b (.arr d) f=R f;simp[fP,i]
   rw[e];exact P.qN f j v hf
 .intro o ho;have:=h.ni o ho;rw[r _ (by show R (ρ.G o)≠_;rw[this];simp)];exact this
 .intro f i
  have W:f≠b:=by rintro rfl;have:=ou X;omega
  show fP R b (.arr d) f=.free;simp only[fP,cO W];exact h.k9 f i
end
section
variable{P:Program} {T:dt} {n:Nat} {G0:Nat->Nat} {F0:jo} {n0:Nat} {w0:World} {fr:Fr} {H:cZ} {a:Act} {w:World}
def DT(w:World){t e:TypeId}{sz:Nat}(o:mO P t=some (e,sz))(ty:TypeId)(base:Option Addr)(a d:Nat)(f:List Value)(holds:f.length=a*sz)
  (D:base=none->a=0/\d=0) (F:∀l,base=some l->∀j v,f[j]?=some v->w.cell? (l.add j)=some v)
  (l:Addr) (m c:Nat) (news:List Value) (r:news.length=m*sz) (hn:∀j v,news[j]?=some v->w.cell? (l.add j)=some v) (n:d<a+m) (q:a+m<=jm):∃cap rest,a+m<=cap/\cap<=maxLen/\(∀u∈rest,u.oneCell'=true)/\(f++news++rest).length=cap*sz/\(Builtin.append_ #[t,t] ty #[.slice base a d,.slice (some l) m c]).run P w=.ok (.slice (some ⟨w.heap.size,0,none⟩) (a+m) cap) (w.drew.alloc (.cells (f++news++rest).toArray e)):=by
 obtain⟨i,z,hu,hi,s,x,y,A,C⟩:=mB o;subst y;have k:a+m<=549755813888:=q
 have h:(a+m)*i.bytes<=140737488355328:=by
  have:=GF k A;omega
 have w6:a+m<=maxLen:=by simp only[maxLen];omega
 have B:=grownCap_ge w (a+m) d e;have hle:=grownCap_le_maxLen w (a+m) d e w6;refine⟨grownCap w (a+m) d e,(Builtin.zeroCells z.cells (grownCap w (a+m) d e-(a+m))).toList,B,hle,vC (MU o hi s) VW _,?_,?_⟩
 .simp only[qj,XH,size_zeroCells,x,holds,r,<-AQ]
  congr 1
  omega
 .have G:(f++news++(Builtin.zeroCells z.cells (grownCap w (a+m) d e-(a+m))).toList).toArray=f.toArray++news.toArray++Builtin.zeroCells z.cells (grownCap w (a+m) d e-(a+m)):=by
   simp
  rw[G];cases base with
  |some b=>
   exact run_append_grow w t ty e i z hu hi s b a d f holds (F b rfl) l m c news r hn n VW (growslice_fits n h)
  |none=>
   obtain⟨rfl,rfl⟩:=D rfl;have:f=[]:=Ar (by simpa using holds);subst this;simp only[tg] at n h k|-;have:=run_append_nil (P:=P) w t ty e i z hu hi s l m c news r hn VW VW VW;simpa using this
structure PF (P:Program) (w:World) (t u e:TypeId) (sz k:Nat) (x:Value) (news:List Value) (ty:TypeId):Prop where
 none:k=0->∀(base:Option Addr) (len cap:Nat),len<=cap->(Builtin.append_ #[t,u] ty #[.slice base len cap,x]).run P w=.ok (.slice base len cap) w
 room:0<k->∀(g sLen sCap:Nat) (cur:Array Value) (e':TypeId),w.heap[g]?=some (.cells cur e' (0,0))->sLen+k<=sCap->sLen*sz+news.length<=cur.size->(Builtin.append_ #[t,u] ty #[.slice (some ⟨g,0,.none⟩) sLen sCap,x]).run P w=.ok (.slice (some ⟨g,0,.none⟩) (sLen+k) sCap) (w.setRow g (cur.toList.take (sLen*sz)++news++cur.toList.drop (sLen*sz+news.length)).toArray)
 grow:0<k->∀(base:Option Addr) (sLen sCap:Nat) (olds:List Value),olds.length=sLen*sz->(base=.none->sLen=0/\sCap=0)->(∀ad,base=some ad->∀j v,olds[j]?=some v->w.cell? (ad.add j)=some v)->sCap<sLen+k->sLen+k<=jm->∃cap rest,sLen+k<=cap/\cap<=maxLen/\(∀u∈rest,u.oneCell'=true)/\(olds++news++rest).length=cap*sz/\(Builtin.append_ #[t,u] ty #[.slice base sLen sCap,x]).run P w=.ok (.slice (some ⟨w.heap.size,0,.none⟩) (sLen+k) cap) (w.drew.alloc (.cells (olds++news++rest).toArray e))
def D5{ρ:Maps}{F:jo}{R:Nat->np}(h:WR T n w0.heap.size ρ F R fr H a w)(hx:Ext w0.heap.size G0 F0 n0 w0 ρ.G F H.length w){d:Nat}{t u e ty:TypeId}{sz:Nat}{K:Fr->cZ->Prop}{tag:Tag}{l m:List AV}{sv xv:Value}{B:List Value}
  (aG:mO P t=some (e,sz)) (aH:fx F ρ (.slice tag l) sv) (aI:kJ sz l=true) (src:PF P w t u e sz m.length xv B ty) (r:fI F ρ.G ρ.n (m.flatMap AV.cells) B) (s:∀y∈m.flatMap AV.cells,y.fL=true)
  (N:∀y∈m,y.cells.length=sz) (aq:l.length+m.length<=jm) (O:d<n)
  (hK:if oz fr tag l then K (grown fr d tag l m) H else m=[]/\K (fr.put (some d) (.slice .iB l)) H):∃v w' fr' H',(Builtin.append_ #[t,u] ty #[sv,xv]).run P w=.ok v w'/\K fr' H'/\SR T n G0 F0 n0 w0 fr' H' (a.put (some d) v) w':=by
 obtain⟨base,cap,b,o,aW,vs,aJ,f,ai,ar⟩:=mJ aH;rw[aJ];obtain⟨i,z,hu,hi,hz,aX,aY,aZ,aU⟩:=mB aG;have C:=qv aI f.sz;have D:fD F ρ.G ρ.n (.slice .iB l) (.slice base l.length cap):=.slice f.cells f.has f.base C f.r' f.Af f.w6 (.inl rfl)
 split at hK
 .rename_i L
  have Q:tag=.full/\cap=l.length\/∃k g,tag=.loc k g/\g=fr.ef k/\fr.qn k=some l.length/\tk ρ k g l base cap:=by
   unfold oz at L
   split at L
   .cases L
   .exact .inl ⟨rfl,ai rfl⟩
   .rename_i k g;simp only[fK,abF] at L;exact .inr ⟨k,g,rfl,L.1,L.2,(ar k g rfl).2⟩
  by_cases hm:m=[]
  .subst hm;obtain⟨ρ',R',hG,_,_,_,hw⟩:=h.rename O D Q;refine⟨_,_,_,_,src.none rfl _ _ _ f.Af,hK,ρ',F,R',?_,by rw[hG];exact hx⟩;exact hw
  .have S:B.length=m.length*sz:=by rw[<-r.length,ns N]
   have J:vs.length=l.length*sz:=by rw[<-f.cells.length,ns C]
   have U:0<m.length:=Sd.2 hm
   by_cases I:l.length+m.length<=cap
   .--in place
    rcases Q with⟨rfl,hc⟩|⟨k,g,rfl,hg,ht,Z⟩
    .omega
    .have M:=Z;unfold tk at M;cases X:ρ.A k g with
     |none=>rw[X] at M;simp only at M;omega
     |some p=>
      obtain⟨b3,c3,x⟩:=p;rw[X] at M;simp only at M;obtain⟨rfl,rfl,aK⟩:=M;rw[hg] at X;obtain⟨t1,t2,t3,a1,⟨cur,aL,t4,t5,a6⟩,t6⟩:=h.tok k _ ht b3 cap x X;have ak:∀u∈B,u.oneCell'=true:=iQ (r.sY.mono λ_ _ _ h=>iF.p h) s
      have ae:l≠[]:=by rintro rfl;exact absurd t3.1 acZ
      have aw:x=sz:=by
       cases l with
       |nil=>exact absurd rfl ae|cons y ys=>rw[<-aK y acZ,C y acZ]
      subst aw;obtain⟨ρ',R',hG,ax,ay,az,hw⟩:=h.rename O D (tag:=.loc k g) (.inr ⟨k,g,rfl,hg,ht,Z⟩)
      have an:ρ'.A d ((grown fr d (.loc k g) l []).ef d)=some (b3,cap,x):=by
       have e:(grown fr d (.loc k g) l []).ef d=fr.ef d+1:=by simp[grown,fP]
       rw[e,ay k g rfl,hg];exact X
      have aA:(grown fr d (.loc k g) l []).qn d=some l.length:=by simp[grown,fP]
      obtain⟨F',aB,Y,aC,aM⟩:=hw.extend aA an S I ak t4
      have aN:b=b3/\o=0:=by
       have:=f.base ae;injection this with this;injection this with e1 e2;exact⟨e1.symm,e2.symm⟩
      obtain⟨rfl,rfl⟩:=aN
      have V:=src.room U b l.length cap cur aL t4 I (by
       rw[S,<-AQ,t5];exact Gg _ I)
      have aD:fx F' ρ' (.slice (.loc d (fr.ef d+1)) (l++m)) (.slice (some ⟨b,0,none⟩) (l.length+m.length) cap):=by
       have hlen:(l++m).length=l.length+m.length:=qj
       have aE:F'.has b 0 (vs++B):=by
        intro q v W;rcases s8 q vs.length with hq|hq
        .rw[tJ hq] at W;exact aB.g.mF _ _ _ (f.has q v W)
        .rw[yf hq] at W;have:=aC _ v W;rw[J] at hq this;rw[show l.length*x+(q-l.length*x)=0+q by omega] at this;exact this
       have af:∀y∈l++m,y.cells.length=x:=by
        intro y hy;rcases rl.1 hy with hy|hy
        .exact C y hy
        .exact N y hy
       have aO:=fD.slice (F:=F') (G:=ρ'.G) (n:=ρ'.n) (tag:=.iB) (l:=l++m) (b:=b) (o:=0) (base:=some ⟨b,0,none⟩) (cap:=cap) (sz:=x) (vs:=vs++B)
        (by
         rw[WL,hG,ax];have aF:=aB.g;rw[hG,ax] at aF
         exact(f.cells.append r).grow aF) aE (λ_=>rfl) af (by
         intro y hy;rw[WL] at hy;rcases rl.1 hy with hy|hy
         .exact f.r' y hy
         .exact s y hy) VW f.w6 (.inl rfl)
       rw[<-hlen];refine .cell (.loc aO (by rw[az];exact gV _) ?_);unfold tk
       have e:ρ'.A d (fr.ef d+1)=some (b,cap,x):=by rw[ay k g rfl,hg];exact X
       rw[e];exact⟨rfl,rfl,af⟩
      have ah:=aM.put (d:=some d) (λ_ hh=>by cases hh;exact O) aD;refine⟨_,_,_,_,V,hK,ρ',F',R',?_,?_⟩
      .have e1:({(grown fr d (.loc k g) l [])with qn:=fP (grown fr d (.loc k g) l []).qn d (some (l.length+m.length))}:Fr).put (some d) (.slice (.loc d (fr.ef d+1)) (l++m))=grown fr d (.loc k g) l m:=by
        simp only[grown,Fr.put,Ld]
       have e2:(a.put (some d) (.slice (some ⟨b,0,none⟩) l.length cap)).put (some d) (.slice (some ⟨b,0,none⟩) (l.length+m.length) cap)=a.put (some d) (.slice (some ⟨b,0,none⟩) (l.length+m.length) cap):=by
        simp[Act.put]
       rw[e1,e2] at ah;exact ah
      .rw[hG];exact(hx.setRow (.inl t1) _).freeze λb' j aP=>Y b' j VW
   .--a new row
    have aQ:base=none->l.length=0/\cap=0:=by
     rintro rfl
     have ao:l=[]:=by
      rcases aaM l with h'|⟨_,_,h'⟩
      .exact h'
      .have:=f.base (by rw[h'];simp);cases this
     subst ao;refine⟨rfl,?_⟩;rcases Q with⟨_,hc⟩|⟨k,g,rfl,hg,ht,Z⟩
     .simpa using hc
     .unfold tk at Z;cases X:ρ.A k g with
      |none=>rw[X] at Z;simpa using Z
      |some p=>
       obtain⟨b3,c3,x⟩:=p;rw[X] at Z;cases Z.1
    have aR:∀ad,base=some ad->∀(j:Nat) (v:Value),vs[j]?=some v->w.cell? (ad.add j)=some v:=by
     intro ad aS j v W
     have ao:l≠[]:=by
      rintro rfl;have:vs=[]:=Ar (by rw[J];simp);subst this;simp at W
     have:=f.base ao;rw[aS] at this;injection this with this;subst this;rw[Addr.add_lit];exact h.g.BQ b _ v (f.has j v W)
    obtain⟨c',rest,r1,r2,r0,r3,V⟩:=src.grow U base l.length cap vs J aQ aR VW aq;have aT:=h.drew.alloc (.cells (vs++B++rest).toArray e);have aV:w.drew.heap.size=w.heap.size:=rfl
    obtain⟨ρ',R',hG,hw⟩:=aT.UD (b:=w.heap.size) (us:=vs++B) (c:=c') (sz:=sz) (tag:=tag) (l:=l) (m:=m) O h.qq (h.k9 _ (gV _)) (λj=>h.g.fresh _ j (gV _))
     (heap_alloc_new w.drew _) (by
      intro u hu;simp only[rl] at hu;rcases hu with(hu|hu)|hu
      .exact iQ (f.cells.sY.mono λ_ _ _ h=>iF.p h) f.r' u hu
      .exact iQ (r.sY.mono λ_ _ _ h=>iF.p h) s u hu
      .exact r0 u hu) (by simpa using r3) VW r1 r2 (by rw[qj,J,S,AQ]) (by
      intro j v W;have hj:=(mH.1 W).1;simp only[af'];rw[tJ hj]
      exact W) (by rw[WL];exact f.cells.append r) (by
      intro y hy;rw[WL] at hy;rcases rl.1 hy with hy|hy
      .exact f.r' y hy
      .exact s y hy) (by
      intro y hy;rcases rl.1 hy with hy|hy
      .exact C y hy
      .exact N y hy)
    refine⟨_,_,_,_,V,hK,ρ',_,R',hw,?_⟩;rw[hG];exact((hx.drew.alloc h.qq _).freeze λb' j aP=>ll (by have:=h.qq;omega))
 .obtain⟨rfl,hK⟩:=hK;refine⟨_,_,_,_,src.none rfl _ _ _ f.Af,hK,ρ,F,R,?_,hx⟩;exact h.put (λ_ hh=>by cases hh;exact O) (.p D)
def Kw{t e:TypeId}{sz:Nat}(f:mO P t=some (e,sz))(ty:TypeId){base:Option Addr}{m cap b o:Nat}{news:List Value}(A:0<m->base=some ⟨b,o,none⟩)(B:news.length=m*sz)
  (hn:∀j v,news[j]?=some v->w.cell? ((⟨b,o,none⟩:Addr).add j)=some v) (J:∀u∈news,u.oneCell'=true):PF P w t t e sz m (.slice base m cap) news ty where
 none C a len h D:=EN w f ty a len h D _ ⟨base,cap,by rw[C]⟩
 room s g c d cur K hg n x:=by
  obtain⟨i,z,hu,hi,L,F,G,H,y⟩:=mB f
  grind[wU]
 grow s a c d k holds q I r l:=by
  rw[A s];exact DT w f ty a c d k holds q I ⟨b,o,.none⟩ m cap news B hn r l
def LM{ρ:Maps}{F:jo}{R:Nat->np}(h:WR T n w0.heap.size ρ F R fr H a w)(U:Ext w0.heap.size G0 F0 n0 w0 ρ.G F H.length w){c:Call}{dst:Option Nat}{ty:TypeId}{K:Fr->cZ->Prop}
  (k:mc P T c dst K fr H) (V:∀d,dst=some d->d<n) (r:∀x∈c.args.toList,iz x=true):∃v w' fr' H',(Builtin.append_ c.argTypes ty (c.args.map a.eval)).run P w=.ok v w'/\K fr' H'/\SR T n G0 F0 n0 w0 fr' H' (a.put dst v) w':=by
 unfold mc at k
 split at k
 .rename_i d s x t W i u;have D:=V d rfl;have X:c.argTypes=#[t,W]:=CR.1 (by rw[u]);have Y:c.args.map a.eval=#[a.eval s,a.eval x]:=CR.1 (by rw[Mu,i];rfl);rw[X,Y];have y:=fG h.env h.gy s (r s (by rw[i];simp));have A:=fG h.env h.gy x (r x (by rw[i];simp))
  split at k
  .rename_i e sz tag l O m B hs I;obtain⟨rfl,J,L,C,k⟩:=k;rw[hs] at y;rw[I] at A;obtain⟨M,Q,S,o2,Z,ad,N,f,_,_⟩:=mJ A;have q:=qv L f.sz;rw[N]
   exact D5 h U B y J (Kw B ty (b:=S) (o:=o2) (λhp=>f.base (Sd.1 hp)) (by rw[<-f.cells.length,ns q]) (λj v hv=>by
    rw[Addr.add_lit]
    exact h.g.BQ S _ v (f.has j v hv)) (iQ (f.cells.sY.mono λ_ _ _ h=>iF.p h) f.r')) f.cells f.r' q C D k
  .exact k.elim
 .exact k.elim
def ox(s:ByteArray):List AV:=s.data.toList.map λb=>AV.sc (.int .u8 (b.toNat:Int))
def BR(P:Program)(T:dt)(c:Call)(dst:Option Nat)(K:Fr->cZ->Prop)(fr:Fr)(H:cZ):Prop:=
 match dst,c.args.toList,c.argTypes.toList with
 |some d,[s,x],[t,a]=>
  match mO P t,P.underlying a,ev T fr s,ev T fr x with
  |some (_,sz),some .string,.slice tag l,.sc (.string y)=>
   sz=1/\kJ 1 l=true/\l.length+y.size<=jm/\(if oz fr tag l then K (grown fr d tag l (ox y)) H else ox y=[]/\K (fr.put (some d) (.slice .iB l)) H)
  |_,_,_,_=>False
 |_,_,_=>False
def Qr{t u e:TypeId}(j:mO P t=some (e,1))(d:P.underlying u=some .string)(ty:TypeId)(s:ByteArray):PF P w t u e 1 s.size (.string s) (Lib.strCells s) ty where
 none v base len cap F:=by
  obtain⟨i,z,hu,hi,x,n,k,o,l⟩:=mB j;have y:=Lib.run_firstCells_string (P:=P) w i.size s;have hn:Lib.strCells s=[]:=Ar (by rw[Lib.strCells_length];exact v);rw[v,hn] at y;cases base with
  |none=>simp[Builtin.append_,run_underlying hu,run_underlying d,sizeOf,typeInfo,hi,Builtin.lenOf,v,F,y]|some N=>simp[Builtin.append_,run_underlying hu,run_underlying d,sizeOf,typeInfo,hi,Builtin.lenOf,v,F,y,storeCells]
 room H g a c cur I hg q A:=by
  obtain⟨i,z,hu,hi,x,n,k,o,l⟩:=mB j;have y:=Lib.run_firstCells_string (P:=P) w 1 s;have B:=run_storeCells_at P g (a*1) I (Lib.strCells s) 0 cur w hg (by simpa using A) (Lib.strCells_oneCell s);simp only[I1,abi] at B;simp[Builtin.append_,run_underlying hu,run_underlying d,sizeOf,typeInfo,hi,k,Builtin.lenOf,q,y,Addr.add_lit,B]
 grow H base a c f holds J K C D:=by
  obtain⟨i,z,hu,hi,x,n,k,o,l⟩:=mB j;have r:a+s.size<=549755813888:=D
  have h:(a+s.size)*i.bytes<=140737488355328:=by
   have:=GF r o;omega
  have w6:a+s.size<=maxLen:=by simp only[maxLen];omega
  refine⟨grownCap w (a+s.size) c e,(Builtin.zeroCells z.cells (grownCap w (a+s.size) c e-(a+s.size))).toList,grownCap_ge w (a+s.size) c e,grownCap_le_maxLen w (a+s.size) c e w6,vC (MU j hi x) VW _,?_,?_⟩
  .have:=grownCap_ge w (a+s.size) c e;simp only[qj,XH,size_zeroCells,n,holds,Lib.strCells_length];omega
  .have L:(f++Lib.strCells s++(Builtin.zeroCells z.cells (grownCap w (a+s.size) c e-(a+s.size))).toList).toArray=f.toArray++(Lib.strCells s).toArray++Builtin.zeroCells z.cells (grownCap w (a+s.size) c e-(a+s.size)):=by
    apply CR.1;simp
   rw[L];cases base with
   |some b=>exact Lib.run_append_grow_string w t u ty e i z hu d hi x b a c f (by rw[k];exact holds) (K b rfl) s C VW (growslice_fits C h)|none=>
    obtain⟨rfl,rfl⟩:=J rfl;have v:f=[]:=Ar (by simpa using holds);subst v;have G:=run_append_nil_string (P:=P) w t u ty e i z hu d hi x s VW VW (by rw[tg] at h;omega)
    have M:(s.data.map λb=>Value.int .u8 b.toNat)=(Lib.strCells s).toArray:=by
     apply Array.ext';simp[Lib.strCells]
    rw[M] at G;simpa using G
def Aw(s:ByteArray):(ox s).flatMap AV.cells=(Lib.strCells s).map AV.sc:=by
 unfold ox Lib.strCells
 induction s.data.toList with
 |nil=>rfl|cons b l ih=>simp only[Dk,GA,ih];rfl
def uT{F:jo}{G:Nat->Nat}{k:Nat}:∀(L:List Value),(∀v∈L,vU v=true)->fI F G k (L.map AV.sc) L
 |[],_=>.nil|v::L,h=>.cons (.sc (h v acZ)) (uT L λx a=>h x (by simp[a]))
def IA{ρ:Maps}{F:jo}{R:Nat->np}(h:WR T n w0.heap.size ρ F R fr H a w)(J:Ext w0.heap.size G0 F0 n0 w0 ρ.G F H.length w){c:Call}{dst:Option Nat}{ty:TypeId}{K:Fr->cZ->Prop}
  (i:BR P T c dst K fr H) (L:∀d,dst=some d->d<n) (j:∀x∈c.args.toList,iz x=true):∃v w' fr' H',(Builtin.append_ c.argTypes ty (c.args.map a.eval)).run P w=.ok v w'/\K fr' H'/\SR T n G0 F0 n0 w0 fr' H' (a.put dst v) w':=by
 unfold BR at i
 split at i
 .rename_i d s x t M f k;have C:=L d rfl;have N:c.argTypes=#[t,M]:=CR.1 (by rw[k]);have O:c.args.map a.eval=#[a.eval s,a.eval x]:=CR.1 (by rw[Mu,f];rfl);rw[N,O];have o:=fG h.env h.gy s (j s (by rw[f];simp));have q:=fG h.env h.gy x (j x (by rw[f];simp))
  split at i
  .rename_i e sz tag l y r u hs D;obtain⟨rfl,I,A,i⟩:=i;rw[hs] at o;rw[D] at q;rw[e_ q]
   have hlen:(ox y).length=y.size:=by simp[ox]
   have Q:fI F ρ.G ρ.n ((ox y).flatMap AV.cells) (Lib.strCells y):=by
    rw[Aw];refine uT _ λv S=>?_;obtain⟨b,_,rfl⟩:=nj.1 S;rfl
   have U:∀c∈(ox y).flatMap AV.cells,c.fL=true:=λc B=>by
    rw[Aw] at B;obtain⟨v,_,rfl⟩:=nj.1 B;rfl
   have c3:∀c∈ox y,c.cells.length=1:=λc B=>by
    obtain⟨b,_,rfl⟩:=nj.1 B;rfl
   exact D5 h J r o I (by rw[hlen];exact Qr r u ty y) Q U c3 (by rw[hlen];exact A) C i
  .exact i.elim
 .exact i.elim
end
end Go.kQ
namespace Go.kQ
open Go
def hS(P:Program)(t:TypeId):Option (List AV):=
 match zeroOf P t with
 |some z=>if xk z=true/\er (ofValue z) then some (ofValue z).cells else none|none=>none
theorem Jv{P:Program}{t:TypeId}{cs:List AV}(h:hS P t=some cs):∃z,zeroOf P t=some z/\xk z=true/\er (ofValue z)=true/\cs=(ofValue z).cells:=by grind[hS]
def xp(fr:Fr)(d:Nat)(cells:List AV)(len cap:Nat):Fr:=
 {fr with env:=fP fr.env d (.vM d (fr.gen d+1) len cap),box:=fP fr.box d (some cells),gen:=fP fr.gen d (fr.gen d+1)}
def wo(n:Nat):List AV:=List.replicate n .undef
def Ch(P:Program)(T:dt)(c:Call)(dst:Option Nat)(K:Fr->cZ->Prop)(fr:Fr)(H:cZ):Prop:=
 match dst,c.args.toList,c.argTypes.toList with
 |some d,[s,x],[t,f]=>
  match mO P t,ev T fr x with
  |some (e,sz),.slice _ m=>
   f=t/\kJ sz m=true/\(hS P e).isSome=true/\0<m.length/\match ev T fr s with
   |.slice .full l=>kJ sz l=true/\l.length+m.length<=jm/\∀cap,l.length+m.length<=cap->K (xp fr d (l.flatMap AV.cells++m.flatMap AV.cells++wo ((cap-(l.length+m.length))*sz)) (l.length+m.length) cap) H|.vM b g len cap=>g=fr.gen b/\len+m.length<=jm/\match fr.box b with
    |some cs=>cs.length=cap*sz/\(len+m.length<=cap->K {fr with env:=fP fr.env d (.vM b g (len+m.length) cap),box:=fP fr.box b (some (setCells cs (len*sz) (m.flatMap AV.cells)))} H)/\(∀a,cap<len+m.length->len+m.length<=a->K (xp fr d (cs.take (len*sz)++m.flatMap AV.cells++wo ((a-(len+m.length))*sz)) (len+m.length) a) H)|none=>False
   |_=>False
  |_,_=>False
 |_,_,_=>False
section
variable{P:Program} {T:dt} {n:Nat} {G0:Nat->Nat} {F0:jo} {n0:Nat} {w0:World} {fr:Fr} {H:cZ} {a:Act} {w:World}
def NW{e:TypeId}(h:(hS P e).isSome=true){i:TypeInfo}{z:Value}(hi:P.info? e=some i)(a:i.zero=some z):∀u∈z.cells.toList,u.oneCell'=true:=by grind[hS,Jv,zeroOf,AD,ofValue,er]
def nd(w:World){t e:TypeId}{sz:Nat}(q:mO P t=some (e,sz))(r:(hS P e).isSome=true)(ty:TypeId)(base:Option Addr)(a d:Nat)(f:List Value)(holds:f.length=a*sz)
  (F:base=none->a=0/\d=0) (G:∀l,base=some l->∀j v,f[j]?=some v->w.cell? (l.add j)=some v)
  (l:Addr) (m c:Nat) (news:List Value) (C:news.length=m*sz) (hn:∀j v,news[j]?=some v->w.cell? (l.add j)=some v) (n:d<a+m) (o:a+m<=jm):∃cap rest,a+m<=cap/\cap<=maxLen/\rest.length=(cap-(a+m))*sz/\(∀u∈rest,u.oneCell'=true)/\(Builtin.append_ #[t,t] ty #[.slice base a d,.slice (some l) m c]).run P w=.ok (.slice (some ⟨w.heap.size,0,none⟩) (a+m) cap) (w.drew.alloc (.cells (f++news++rest).toArray e)):=by
 obtain⟨i,z,hu,hi,s,x,y,A,D⟩:=mB q;subst y;have k:a+m<=549755813888:=o
 have h:(a+m)*i.bytes<=140737488355328:=by
  have:=GF k A;omega
 have w6:a+m<=maxLen:=by simp only[maxLen];omega
 have B:=grownCap_ge w (a+m) d e;have hle:=grownCap_le_maxLen w (a+m) d e w6;refine⟨grownCap w (a+m) d e,(Builtin.zeroCells z.cells (grownCap w (a+m) d e-(a+m))).toList,B,hle,?_,vC (NW r hi s) VW _,?_⟩
 .simp only[XH,size_zeroCells,x]
 .have H:(f++news++(Builtin.zeroCells z.cells (grownCap w (a+m) d e-(a+m))).toList).toArray=f.toArray++news.toArray++Builtin.zeroCells z.cells (grownCap w (a+m) d e-(a+m)):=by
   apply CR.1;simp
  rw[H];cases base with
  |some b=>
   exact run_append_grow w t ty e i z hu hi s b a d f holds (G b rfl) l m c news C hn n VW (growslice_fits n h)
  |none=>
   obtain⟨rfl,rfl⟩:=F rfl;have:f=[]:=Ar (by simpa using holds);subst this;simp only[tg] at n h k|-;have:=run_append_nil (P:=P) w t ty e i z hu hi s l m c news C hn VW VW VW;simpa using this
def GR{F:jo}{ρ:Maps}:∀{rest:List Value} {k:Nat},rest.length=k->(∀u∈rest,u.oneCell'=true)->fV (iF F ρ) (wo k) rest
 |[],k,h,_=>by cases h;exact .nil
 |u::rest,k,h,a=>by
  cases h;exact .cons (.p (.undef (a u acZ))) (GR rfl λv b=>a v (by simp[b]))
def wu(k:Nat):∀c∈wo k,c.fL=true:=by
 intro c a;rw[List.eq_of_mem_replicate a];rfl
def WR.TZ{ρ:Maps}{F:jo}{R:Nat->np}(h:WR T n w0.heap.size ρ F R fr H a w)(s:Ext w0.heap.size G0 F0 n0 w0 ρ.G F H.length w){d len cap:Nat}(l:d<n){cells:List AV}{vs:Array Value}(ty:TypeId)
  (o:fV (iF F ρ) cells vs.toList) (i:∀c∈cells,c.fL=true) (hlen:len<=cap) (Af:cap<=maxLen):SR T n G0 F0 n0 w0 (xp fr d cells len cap) H (a.put (some d) (.slice (some ⟨w.heap.size,0,none⟩) len cap)) (w.drew.alloc (.cells vs ty)):=by
 have t:=h.drew.alloc (.cells vs ty);have k:(w.drew.alloc (.cells vs ty)).heap[w.drew.heap.size]?=some (.cells vs ty (0,0)):=heap_alloc_new w.drew _;have u:w.drew.heap.size=w.heap.size:=rfl;have f:R w.drew.heap.size=.free:=h.k9 _ (gV _);have hF:∀j,F w.drew.heap.size j=none:=λj=>h.g.fresh _ j (gV _);obtain⟨ρ',y,hG,hw⟩:=t.Z2 h.qq f hF k o i l;have A:=hw.box d cells (by simp[fP])
 have B:ρ'.L d (fr.gen d+1)=w.heap.size:=by
  have he:=hw.env d
  have q:({fr with env:=fP fr.env d (.gv d (fr.gen d+1) 0),box:=fP fr.box d (some cells),gen:=fP fr.gen d (fr.gen d+1)}:Fr).env d=.gv d (fr.gen d+1) 0:=by simp[fP]
  rw[q,MY a (some d) _ d (by intro C he;injection he with he;subst he;rw[h.size];exact l),cS rfl] at he;have:=(v8 he).1;injection this with this;injection this with this;injection this with this;exact this.symm
 have r:fr.gen d+1<=ρ'.lg d:=by
  rw[hw.lg d];simp[fP]
 have js:=hw.put (d:=some d) (by intro C he;injection he with he;subst he;exact l) (x:=.vM d (fr.gen d+1) len cap) (v:=.slice (some ⟨w.heap.size,0,none⟩) len cap) (by
  have:=iF.vM (F:=F) (ρ:=ρ') (b:=d) (g:=fr.gen d+1) r hlen Af;rw[B] at this
  exact .cell this)
 refine⟨ρ',F,y,?_,?_⟩
 .have q:(({fr with env:=fP fr.env d (.gv d (fr.gen d+1) 0),box:=fP fr.box d (some cells),gen:=fP fr.gen d (fr.gen d+1)}:Fr).put (some d) (.vM d (fr.gen d+1) len cap))=xp fr d cells len cap:=by
   simp only[xp,Fr.put,Ld]
  have D:(a.put (some d) (.pointer (some ⟨w.heap.size,0,none⟩))).put (some d) (.slice (some ⟨w.heap.size,0,none⟩) len cap)=a.put (some d) (.slice (some ⟨w.heap.size,0,none⟩) len cap):=by
   simp[Act.put]
  rw[q,D] at js;exact js
 .rw[hG];exact(s.drew).alloc h.qq _
def IE{ρ:Maps}{F:jo}{R:Nat->np}(h:WR T n w0.heap.size ρ F R fr H a w)(hx:Ext w0.heap.size G0 F0 n0 w0 ρ.G F H.length w){c:Call}{dst:Option Nat}{ty:TypeId}{K:Fr->cZ->Prop}
  (y:Ch P T c dst K fr H) (hd:∀d,dst=some d->d<n) (ar:∀x∈c.args.toList,iz x=true):∃v w' fr' H',(Builtin.append_ c.argTypes ty (c.args.map a.eval)).run P w=.ok v w'/\K fr' H'/\SR T n G0 F0 n0 w0 fr' H' (a.put dst v) w':=by
 unfold Ch at y
 split at y
 .rename_i d s x t t' A aw;have W:=hd d rfl;have e1:c.argTypes=#[t,t']:=CR.1 (by rw[aw]);have e2:c.args.map a.eval=#[a.eval s,a.eval x]:=CR.1 (by rw[Mu,A];rfl);rw[e1,e2];have S:=fG h.env h.gy s (ar s (by rw[A];simp));have ax:=fG h.env h.gy x (ar x (by rw[A];simp))
  split at y
  .rename_i e sz aT m X aF;obtain⟨rfl,aG,ay,Y,y⟩:=y;rw[aF] at ax;obtain⟨aH,D,b2,o2,aX,k,aI,f,_,_⟩:=mJ ax;have hm:m≠[]:=Sd.1 Y;have az:=qv aG f.sz;have U:=f.base hm
   have B:∀j v,k[j]?=some v->w.cell? ((⟨b2,o2,none⟩:Addr).add j)=some v:=by
    intro j v Q;rw[Addr.add_lit];exact h.g.BQ b2 _ v (f.has j v Q)
   have I:k.length=m.length*sz:=by rw[<-f.cells.length,ns az]
   have J:fV (iF F ρ) (m.flatMap AV.cells) k:=f.cells.sY.mono λ_ _ _ h=>.p h;have Z:∀u∈k,u.oneCell'=true:=iQ J f.r';obtain⟨i,z,hu,hi,hz,aY,ae,aZ,aU⟩:=mB X;rw[aI,U]
   split at y
   .--a new row
    rename_i l hs;obtain⟨aJ,M,y⟩:=y;rw[hs] at S;obtain⟨base,cap,b,o,a1,vs,af,C,ah,_⟩:=mJ S;rw[af];have Af:cap=l.length:=ah rfl;have aA:=qv aJ C.sz
    have V:vs.length=l.length*sz:=by rw[<-C.cells.length,ns aA]
    have aK:base=none->l.length=0/\cap=0:=by
     rintro rfl
     have aL:l=[]:=by
      rcases aaM l with h'|⟨_,_,h'⟩
      .exact h'
      .have:=C.base (by rw[h'];simp);cases this
     subst aL;exact⟨rfl,Af⟩
    have ho:∀ad,base=some ad->∀j v,vs[j]?=some v->w.cell? (ad.add j)=some v:=by
     intro ad ai j v Q
     have aB:l≠[]:=by
      rintro rfl;have:vs=[]:=Ar (by simpa using V);rw[this] at Q;simp at Q
     have:=C.base aB;rw[ai] at this;obtain rfl:=fU this;rw[Addr.add_lit];exact h.g.BQ b _ v (C.has j v Q)
    obtain⟨N,rest,O,ak,an,ao,q⟩:=nd w X ay ty base l.length cap vs V aK ho ⟨b2,o2,none⟩ m.length D k I B VW M;refine⟨_,_,_,_,q,y N O,h.TZ hx W e ?_ ?_ O ak⟩
    .simp only;exact((C.cells.sY.mono λ_ _ _ h=>iF.p h).append J).append (GR an ao)
    .intro c hc;simp only[rl] at hc;rcases hc with(hc|hc)|hc
     .exact C.r' c hc
     .exact f.r' c hc
     .exact wu _ c hc
   .--a row of a6 aC own
    rename_i b g len cap hs;obtain⟨hg,M,y⟩:=y;rw[hs] at S;obtain⟨af,aM,aN,aO⟩:=yx S;rw[af]
    split at y
    .rename_i cs hb;obtain⟨aP,aQ,aR⟩:=y;obtain⟨b1,aS,b3,cur,cty,b4,b5⟩:=h.box b cs hb;rw[<-hg] at b1 aS b4
     have aV:cur.size=cap*sz:=by rw[<-aP];simpa using b5.length.symm
     have hle:len*sz<=cap*sz:=Gg _ aN
     by_cases r:len+m.length<=cap
     .have aW:len*sz+m.length*sz<=cap*sz:=by rw[<-AQ];exact Gg _ r
      have q:=wU (P:=P) w t' ty e cty i hu hi (ρ.L b g) len cap cur b4 ⟨b2,o2,none⟩ m.length D k (by rw[ae];exact I) B Z r (by rw[ae];omega);rw[ae] at q;have eR:=b5.setCells J (len*sz);have aD:(m.flatMap AV.cells).length=k.length:=J.length
      have aq:∀c∈setCells cs (len*sz) (m.flatMap AV.cells),c.fL=true:=by
       intro c hc;simp only[setCells,rl] at hc;rcases hc with(hm|hm)|hm
       .exact b3 c (z8 hm)
       .exact f.r' c hm
       .exact b3 c (FT hm)
      have aE:=h.VG hb (vs':=(cur.toList.take (len*sz)++k++cur.toList.drop (len*sz+k.length)).toArray) (by rw[<-aD];simpa[aD] using eR) aq;rw[<-hg] at aE;have js:=aE.put (d:=some d) (by intro d' he;injection he with he;subst he;exact W) (x:=.vM b g (len+m.length) cap) (v:=.slice (some ⟨ρ.L b g,0,none⟩) (len+m.length) cap) (.cell (.vM aM r aO));refine⟨_,_,_,_,q,aQ r,ρ,F,R,js,hx.setRow (.inl b1) _⟩
     .have ho:∀ad,some (⟨ρ.L b g,0,none⟩:Addr)=some ad->∀j v,(cur.toList.take (len*sz))[j]?=some v->w.cell? (ad.add j)=some v:=by
       intro ad ai j v Q;obtain rfl:=fU ai;rw[Addr.add_lit,tg,cell_of_row w _ _ cur cty (0,0) b4];rw[NB] at Q
       split at Q
       .simpa using Q
       .cases Q
      obtain⟨N,rest,O,ak,an,ao,q⟩:=nd w X ay ty (some ⟨ρ.L b g,0,none⟩) len cap (cur.toList.take (len*sz)) ado (by intro h;cases h) ho ⟨b2,o2,none⟩ m.length D k I B VW M;refine⟨_,_,_,_,q,aR N VW O,h.TZ hx W e ?_ ?_ O ak⟩
      .simp only;exact((b5.take _).append J).append (GR an ao)
      .intro c hc;simp only[rl] at hc;rcases hc with(hc|hc)|hc
       .exact b3 c (z8 hc)
       .exact f.r' c hc
       .exact wu _ c hc
    .exact y.elim
   .exact y.elim
  .exact y.elim
 .exact y.elim
end
end Go.kQ
namespace Go.kQ
open Go Go.MapKept
def Gn:TypeDesc->Value->Bool
 |.bool,.bool _=>true|.int k,.int k' _=>k'==k|.string,.string _=>true|_,_=>false
def Wi:Value->Value->Bool
 |.bool a,.bool b=>a==b|.int _ a,.int _ b=>a==b|.string a,.string b=>a==b|_,_=>false
theorem um{d:TypeDesc}{v:Value}(h:Gn d v=true):IsKey d v:=by
 unfold Gn at h
 split at h<;>simp_all [IsKey]
def DG{d:TypeDesc}{a b:Value}(c:IsKey d a)(f:IsKey d b):Wi a b=true↔a=b:=by
 cases d<;>cases a<;>cases b<;>simp_all [IsKey,Wi,bytes_beq]
def mapIdx(ks:List Value)(k:Value):Option Nat:=ks.findIdx? (λx=>Wi x k)
def yT{d:TypeDesc}{k:Value}(f:IsKey d k):∀{ks:List Value} {j:Nat},(∀x∈ks,IsKey d x)->ks.Nodup->ks[j]?=some k->mapIdx ks k=some j
 |[],j,_,_,h=>by simp at h
 |x::ks,j,a,hn,h=>by
  have b:=a x acZ;unfold mapIdx;rw[acN];cases j with
  |zero=>
   simp at h;subst h;rw[cS ((DG b b).2 rfl)]
  |succ j=>
   simp at h
   have c:x≠k:=by
    rintro rfl;exact(Ux.1 hn).1 (Gt h)
   rw[cO (λe=>c ((DG b f).1 e))];have:=yT f (λy hy=>a y (by simp[hy])) (Ux.1 hn).2 h;unfold mapIdx at this;rw[this];rfl
def yK{d:TypeDesc}{k:Value}(b:IsKey d k):∀{ks:List Value},(∀x∈ks,IsKey d x)->(∀x∈ks,x≠k)->mapIdx ks k=none
 |[],_,_=>rfl|x::ks,a,h=>by
  unfold mapIdx;rw[acN,cO (λe=>h x acZ ((DG (a x acZ) b).1 e))];have:=yK b (ks:=ks) (λy hy=>a y (by simp[hy])) (λy hy=>h y (by simp[hy]))
  grind[mapIdx]
def M1(P:Program)(t:TypeId):Option AV:=
 match zeroOf P t with
 |some z=>if xk z=true/\er (ofValue z) then some (ofValue z).norm else none|none=>none
def tv(P:Program)(H:cZ)(t:TypeId)(x i:AV)(ok:Bool):Option AV:=
 match P.underlying t,x,i with
 |some (.map kt e),.kT o,.sc k=>
  match P.underlying kt,H[o]?,M1 P e with
  |some d,some [.sW ks xs],some z=>
   if Gn d k=true/\ks.all (Gn d) then
    match mapIdx ks k with
    |some j=>(xs[j]?).map λv=>if ok then .tuple [v,.sc (.bool true)] else v|none=>some (if ok then .tuple [z,.sc (.bool false)] else z)
   else none
  |_,_,_=>none
 |_,_,_=>none
def Da(ks:List Value)(xs:List AV)(k:Value)(v:AV):AV:=
 match mapIdx ks k with
 |some j=>.sW ks (xs.set j v)|none=>.sW (ks++[k]) (xs++[v])
def rh(P:Program)(t:TypeId)(x i v:AV)(K:Fr->cZ->Prop)(fr:Fr)(H:cZ):Prop:=
 match P.underlying t,x,i with
 |some (.map kt _),.kT o,.sc k=>
  match P.underlying kt,H[o]?with
  |some d,some [.sW ks xs]=>Gn d k=true/\ks.all (Gn d)=true/\K fr (H.set o [Da ks xs k v.norm])|_,_=>False
 |_,_,_=>False
def Hu(dst:Option Nat)(K:Fr->cZ->Prop)(fr:Fr)(H:cZ):Prop:=K (fr.put dst (.kT H.length)) (H++[[.sW [] []]])
def FR(P:Program)(t:TypeId)(x:AV)(dst:Option Nat)(K:Fr->cZ->Prop)(fr:Fr)(H:cZ):Prop:=
 match P.underlying t,x with
 |some (.map _ _),.kT o=>
  match H[o]?with
  |some [.sW ks _]=>K (fr.put dst (.eb H.length 0)) (H++[[.lU o ks.length []]])|_=>False
 |_,_=>False
def Ji(x:AV)(dst:Option Nat)(K:Fr->cZ->Prop)(fr:Fr)(H:cZ):Prop:=
 match x with
 |.eb i 0=>
  match H[i]?with
  |some [.lU o since seen]=>
   match H[o]?with
   |some [.sW ks xs]=>ks.length=since/\ks.all vU=true/\((∀j,j<ks.length->j∈seen)->K (fr.put dst (.tuple [.sc (.bool false)])) H)/\∀j k v,ks[j]?=some k->xs[j]?=some v->j∉seen->K (fr.put dst (.tuple [.sc (.bool true),.sc k,v])) (H.set i [.lU o since (seen++[j])])|_=>False
  |_=>False
 |_=>False
def CZ(x:AV)(H:cZ):Option AV:=
 match x with
 |.eb i 0=>
  match H[i]?with
  |some [.lU o since seen]=>
   match H[o]?,seen.getLast? with
   |some [.sW ks xs],some j=>
    match ks[j]?,xs[j]?with
    |some k,some v=>if ks.length=since/\vU k then some (.tuple [.sc k,v])else none|_,_=>none
   |_,_=>none
  |_=>none
 |_=>none
def kD.zX{F:jo}{G:Nat->Nat}{n:Nat}{ks xs ob}(h:kD F G n [.sW ks xs] ob):∃es clock,ob=.map es clock/\es.toList.map (·.key)=ks/\fV (fD F G n) xs (es.toList.map (·.val))/\es.toList.map (·.born)=List.range ks.length/\clock=ks.length/\ks.Nodup:=by
 cases h with
 |cells c b a=>have:=a (.sW ks xs) acZ;simp[AV.fL] at this
 |map b a d f i=>grind
def kD.M0{F:jo}{G:Nat->Nat}{n:Nat}{o since seen ob}(h:kD F G n [.lU o since seen] ob):ob=.mapIter (some (G o)) since seen.toArray since/\o<n:=by
 cases h with
 |cells b c a=>have:=a (.lU o since seen) acZ;simp[AV.fL] at this
 |iter h=>grind
section
variable{P:Program} {T:dt} {n B0:Nat} {ρ:Maps} {F:jo} {R:Nat->np} {fr:Fr} {H:cZ} {a:Act} {w:World}
def Df{o:Nat}{v:Value}(h:fx F ρ (.kT o) v):v=.map (some (ρ.G o))/\o<ρ.n:=by
 cases h with
 |cell h=>cases h with
  |p h=>cases h with|kT h=>exact⟨rfl,h⟩
def WG(w:World){t:TypeId}{z:AV}(h:M1 P t=some z):∃v,(zeroValue t).run P w=.ok v w/\fD F ρ.G ρ.n z v:=by
 unfold M1 at h
 split at h
 .rename_i z0 a
  split at h
  .rename_i b;injection h with h;subst h;refine⟨z0,?_,(fx.p (xH _ _ _ _ b.1)).norm⟩;unfold zeroOf at a;cases hi:P.info? t with
   |none=>grind|some i=>
    rw[hi] at a;simp at a;simp[zeroValue,typeInfo,hi,a]
  .cases h
 .cases h
def QQ{d:TypeDesc}{ks:List Value}{es:Array MapEntry}(h:es.toList.map (·.key)=ks)(a:ks.all (Gn d)=true):∀x∈es.toList,IsKey d x.key:=by grind[um]
def FE{ks:List Value}{es:Array MapEntry}{j:Nat}{e:MapEntry}(h:es.toList.map (·.key)=ks)(a:es.toList[j]?=some e):ks[j]?=some e.key:=by grind
def M3(h:WR T n B0 ρ F R fr H a w){t:TypeId}{x i r:AV}{ok:Bool}{O Q:Value}(c:tv P H t x i ok=some r)(I:fx F ρ x O)(hi:fx F ρ i Q):∃v,(Instr.lookup t O Q ok).run P w=.ok v w/\fx F ρ r v:=by
 unfold tv at c
 split at c
 .rename_i kt e o k hu
  split at c
  .rename_i d ks xs z D V W
   split at c
   .rename_i J;obtain⟨rfl,_⟩:=Df I;obtain rfl:=e_ hi;obtain⟨ob,S,X⟩:=h.g.j2 o _ V;obtain⟨es,clock,rfl,K,U,e3,e4,Y⟩:=X.zX;rw[<-h.hn] at U;have b:=um J.1;have q:=QQ K J.2;have s:∀y∈ks,IsKey d y:=λy hy=>um (j3.1 J.2 _ hy);obtain⟨L,M,u⟩:=WG (F:=F) (ρ:=ρ) w W;rcases findNow_spec b es.toList 0 q with⟨f,l⟩|⟨j,G,f,l,N⟩
    .rw[yK b s (by
      intro y hy;rw[<-K] at hy;obtain⟨x,I,rfl⟩:=nj.1 hy
      exact l x I)] at c
     simp only[u9] at c;subst c;refine⟨if ok then .tuple #[L,.bool false] else L,?_,?_⟩
     .cases ok<;>simp[Instr.lookup,run_underlying hu,MapKept.run_getObj_map S,run_checkKey D b,run_findKey D f,M,Result.andThen]
     .cases ok
      .exact .p u
      .exact .p (.tuple (vs:=[L,.bool false]) (.cons u (.cons (.sc rfl) .nil)))
    .have A:=FE K l;rw[N] at A;rw[yT b s Y A] at c;simp only[Y7] at c;obtain⟨y,hy,rfl⟩:=c;obtain⟨Z,B,C⟩:=U.get hy
     have:Z=G.val:=by
      rw[yA,l] at B;simpa using B.symm
     subst this;simp only[tg] at f;refine⟨if ok then .tuple #[G.val,.bool true] else G.val,?_,?_⟩
     .cases ok<;>simp[Instr.lookup,run_underlying hu,MapKept.run_getObj_map S,run_checkKey D b,run_findKey D f,Result.andThen]
     .cases ok
      .exact .p C
      .exact .p (.tuple (vs:=[G.val,.bool true]) (.cons C (.cons (.sc rfl) .nil)))
   .cases c
  .cases c
 .cases c
def fV.aha{α β:Type}{R:α->β->Prop}{as:List α}{bs:List β}(h:fV R as bs){a:α}{b:β}(c:R a b)(j:Nat):fV R (as.set j a) (bs.set j b):=by
 induction h generalizing j with
 |nil=>simp;exact .nil|cons d f ih=>cases j with
  |zero=>exact .cons c f|succ j=>exact .cons d (ih j)
def AM(f:MapEntry->MapEntry){α:Type}(g:MapEntry->α)(es:Array MapEntry)(j:Nat){e:MapEntry}(a:es.toList[j]?=some e):(es.modify j f).toList.map g=(es.toList.map g).set j (g (f e)):=by
 apply U9
 grind
def Mn{α:Type}{l:List α}{j:Nat}{x:α}(h:l[j]?=some x):l.set j x=l:=by
 apply U9
 grind
def CM{G0:Nat->Nat}{F0:jo}{n0:Nat}{w0:World}(h:WR T n w0.heap.size ρ F R fr H a w)(Q:Ext w0.heap.size G0 F0 n0 w0 ρ.G F H.length w){t:TypeId}{x i v:AV}{xv A B:Value}{K:Fr->cZ->Prop}
  (k:rh P t x i v K fr H) (S:fx F ρ x xv) (U:fx F ρ i A) (D:fx F ρ v B):∃fr' H' w',(Instr.mapUpdate t xv A B).run P w=.ok () w'/\K fr' H'/\SR T n G0 F0 n0 w0 fr' H' a w':=by
 unfold rh at k
 split at k
 .rename_i kt e o kk hu
  split at k
  .rename_i d ks xs O V;obtain⟨W,I,k⟩:=k;obtain⟨rfl,_⟩:=Df S;obtain rfl:=e_ U;obtain⟨ob,J,h2⟩:=h.g.j2 o _ V;obtain⟨es,clock,rfl,C,X,e3,Y,e5⟩:=h2.zX;have c:=um W;have r:=QQ C I;have L:∀y∈ks,IsKey d y:=λy hy=>um (j3.1 I _ hy)
   have hlen:es.toList.length=ks.length:=by rw[<-C];simp
   rw[<-h.hn] at X
   have fin:∀(l:Obj) (s:List AV),kD F ρ.G ρ.n s l->K fr (H.set o s)->(Instr.mapUpdate t (.map (some (ρ.G o))) A B).run P w=.ok () {w with heap:=w.heap.setIfInBounds (ρ.G o) l}->∃fr' H' w',(Instr.mapUpdate t (.map (some (ρ.G o))) A B).run P w=.ok () w'/\K fr' H'/\SR T n G0 F0 n0 w0 fr' H' a w':=by
    intro l s Z k M;obtain⟨s1,s2⟩:=heap_set (o':=l) J;refine⟨_,_,_,M,k,ρ,F,R,h.GZ V acZ acZ s1 s2 Z,?_⟩;rw[SV];refine Q.NC rfl rfl rfl acZ λb hb hn=>s2 b ?_;rintro rfl;exact hn o (mH.1 V).1 rfl
   rcases findNow_spec c es.toList 0 r with⟨q,f⟩|⟨j,e0,q,f,N⟩
   .rw[Da,yK c L (by
     intro y hy;rw[<-C] at hy;obtain⟨x,Q,rfl⟩:=nj.1 hy
     exact f x Q)] at k
    refine fin (.map (es.push {key:=A,val:=B,born:=clock}) (clock+1)) _ (.map ?_ ?_ ?_ ?_ ?_) k ?_
    .simp[C]
    .simpa using X.append (.cons D.norm .nil)
    .simp[e3,Y,List.range_succ]
    .simp[Y]
    .grind
    .simp[Instr.mapUpdate,run_underlying hu,MapKept.run_getObj_map J,run_checkKey O c,run_findKey O q,run_setObj_map _ J,Result.andThen]
   .have u:=FE C f;rw[N] at u;rw[Da,yT c L e5 u] at k
    have hj:es[j]?=some e0:=by simpa using f
    simp only[tg] at q;refine fin (.map (es.modify j λe=>{e with key:=A,val:=B}) clock) _ (.map ?_ ?_ ?_ Y e5) k ?_
    .rw[AM _ _ _ _ f,C,Mn u]
    .rw[AM _ _ _ _ f];exact X.aha D.norm j
    .rw[AM _ _ _ _ f,Mn (by rw[yA,f];rfl),e3]
    .simp[Instr.mapUpdate,run_underlying hu,MapKept.run_getObj_map J,run_checkKey O c,run_findKey O q,hj,N,run_keyThatStays c,run_setObj_map _ J,Result.andThen]
  .exact k.elim
 .exact k.elim
def pJ{G0:Nat->Nat}{F0:jo}{n0:Nat}{w0:World}(h:WR T n w0.heap.size ρ F R fr H a w)(i:Ext w0.heap.size G0 F0 n0 w0 ρ.G F H.length w){ob:Obj}{cs:List AV}(c:kD F ρ.G ρ.n cs ob)
  {dst:Option Nat} (k:∀d,dst=some d->d<n) {x:AV} {v:Value} (l:∀ρ':Maps,(∀o,o<H.length->ρ'.G o=ρ.G o)->ρ'.G H.length=w.heap.size->ρ'.n=H.length+1->fD F ρ'.G ρ'.n x v):SR T n G0 F0 n0 w0 (fr.put dst x) (H++[cs]) (a.put dst v) (w.alloc ob):=by
 obtain⟨ρ',q,hG,b,f,hw⟩:=(h.alloc ob).QL (h.k9 _ (gV _)) (λj=>h.g.fresh _ j (gV _)) (heap_alloc_new w _) c;refine⟨ρ',F,q,hw.put k (.p (l ρ' hG b f)),?_⟩;rw[qj];exact(i.alloc h.qq _).ae8 hG (by rw[b];exact h.qq)
def BA{G0:Nat->Nat}{F0:jo}{n0:Nat}{w0:World}(h:WR T n w0.heap.size ρ F R fr H a w)(j:Ext w0.heap.size G0 F0 n0 w0 ρ.G F H.length w){t k:Nat}{parts:List (Nat×AV)}{pv:List (Nat×Value)}{tag:Tag}{l:List AV}
  {dst:Option Nat} (q:me P t k parts=some (.slice tag l)) (c:fV (λ(x:Nat×AV) (y:Nat×Value)=>x.1=y.1/\fx F ρ x.2 y.2) parts pv) (r:∀d,dst=some d->d<n):∃v w',(Instr.buildSlice t k pv.toArray).run P w=.ok v w'/\SR T n G0 F0 n0 w0 (fr.put dst (.qY H.length 0 l.length l.length)) (H++[l.flatMap AV.cells]) (a.put dst v) w':=by
 obtain⟨B,us,e,sz,he,C,w6,s,b,f,i⟩:=yO w q c;injection he with _ he;subst he;refine⟨_,_,i,pJ h j (.cells (.inl rfl) (by simpa using b) f) r ?_⟩;intro ρ' hG u A;have:=fD.qY (F:=F) (G:=ρ'.G) (n:=ρ'.n) (o:=H.length) (off:=0) (len:=l.length) (cap:=l.length) (by grind)
 grind
def H7{G0:Nat->Nat}{F0:jo}{n0:Nat}{w0:World}(h:WR T n w0.heap.size ρ F R fr H a w)(b:Ext w0.heap.size G0 F0 n0 w0 ρ.G F H.length w){t:TypeId}{dst:Option Nat}(c:∀d,dst=some d->d<n):∃v w',(Instr.makeMap t none).run P w=.ok v w'/\SR T n G0 F0 n0 w0 (fr.put dst (.kT H.length)) (H++[[.sW [] []]]) (a.put dst v) w':=by
 refine⟨.map (some w.heap.size),w.alloc (.map #[] 0),by simp[Instr.makeMap],pJ h b (.map acZ (by simp;exact .nil) acZ rfl acZ) c ?_⟩;intro ρ' hG f i;have:=fD.kT (F:=F) (G:=ρ'.G) (n:=ρ'.n) (o:=H.length) (by grind)
 grind
def LW{G0:Nat->Nat}{F0:jo}{n0:Nat}{w0:World}(h:WR T n w0.heap.size ρ F R fr H a w)(j:Ext w0.heap.size G0 F0 n0 w0 ρ.G F H.length w){t:TypeId}{x:AV}{i:Value}{dst:Option Nat}{K:Fr->cZ->Prop}
  (b:FR P t x dst K fr H) (k:∀d,dst=some d->d<n) (c:fx F ρ x i):∃v w' fr' H',(Instr.range t i).run P w=.ok v w'/\K fr' H'/\SR T n G0 F0 n0 w0 fr' H' (a.put dst v) w':=by
 unfold FR at b
 split at b
 .rename_i kt e o hu
  split at b
  .rename_i ks xs l;obtain⟨rfl,f⟩:=Df c;obtain⟨ob,q,r⟩:=h.g.j2 o _ l;obtain⟨es,clock,rfl,A,B,C,s,D⟩:=r.zX;subst s;refine⟨_,_,_,_,run_range_map w t kt e (ρ.G o) es ks.length hu q,b,pJ h j (.iter (seen:=[]) f) k ?_⟩;intro ρ' hG u y;have:=fD.eb (F:=F) (G:=ρ'.G) (n:=ρ'.n) (o:=H.length) (off:=0) (by grind)
   grind
  .exact b.elim
 .exact b.elim
def ML{es:Array MapEntry}{k:Nat}(h:es.toList.map (·.born)=List.range k){e:MapEntry}(he:e∈es.toList):e.born<k/\es.toList[e.born]?=some e:=by
 obtain⟨j,a⟩:=Ye.1 he
 have b:(es.toList.map (·.born))[j]?=some e.born:=by grind
 grind
def Ik(w:World){it m since:Nat}{seen:Array Nat}{es:Array MapEntry}(ty:TypeId)(hit:w.heap[it]?=some (.mapIter (some m) since seen since))(hm:w.heap[m]?=some (.map es since))(r:es.toList.map (·.born)=List.range since):((∀e∈es.toList,e.born∈seen)/\(Instr.next (.pointer (some ⟨it,0,none⟩)) false ty).run P w=.ok (.tuple #[.bool false]) w)\/∃e∈es.toList,e.born∉seen/\∃a,(a=w\/a=w.drew)/\(Instr.next (.pointer (some ⟨it,0,none⟩)) false ty).run P w=.ok (.tuple #[.bool true,e.key,e.val]) {a with heap:=a.heap.setIfInBounds it (.mapIter (some m) since (seen.push e.born) since)}:=by
 have hold:∀x∈es.toList,x.born<since:=λx c=>(ML r c).1;simp only[Instr.next,getObj,gl,Sem.run,hit,hm,Result.andThen,next_test_false seen es since since hold (gV _),oo,lS]
 have k:∀x,x∈(Array.filter (λe=>!seen.contains e.born) es).toList↔x∈es.toList/\x.born∉seen:=by
  intro x;simp
 generalize Array.filter (λe=>!seen.contains e.born) es=L at k|-;have b:∀x∈L.toList,x.born<since:=λx c=>hold x ((k x).1 c).1;have s:L.filter (λx=>decide (x.born<since))=L:=Array.filter_eq_self.2 (λx c=>by simpa using b x (by simpa using c))
 have t:L.filter (λx=>decide (x.born>=since))=#[]:=by
  rw[Array.filter_eq_empty_iff];intro x c;have:=b x (by simpa using c);simp;omega
 simp only[s,t,Array.append_empty]
 by_cases o:L.size=0
 .left;have:L=#[]:=acL o;subst this;refine⟨?_,?_⟩
  . grind
  . simp[choose,Sem.run,Question.forced]
 .right
  have l:L.isEmpty=false:=by simp[Array.isEmpty,o]
  simp only[l,oo,lS,Array.empty_append,Array.size_map]
  have n:∃(j:Nat) (a:World),j<L.size/\(a=w\/a=w.drew)/\(choose (Question.mapNext L.size)).run P w=.ok j a:=by
    by_cases q:L.size<=1
    .exact⟨0,w,VW,.inl rfl,by simp[choose,Sem.run,Question.forced,q]⟩
    .exact⟨_,w.drew,Zk _ VW,.inr rfl,by
      simp only[choose,Sem.run,Question.forced,oq,q,lS,Question.cut]
      rfl⟩
  obtain⟨j,a,u,d,f⟩:=n;have h:=(k L[j]).1 acZ;refine⟨L[j],h.1,h.2,a,d,?_⟩
  have i:a.heap[it]?=some (.mapIter (some m) since seen since):=by
    rcases d with rfl|rfl
    .exact hit
    .exact hit
  have eR:∀(o':Obj),(setObj it o').run P a=.ok () {a with heap:=a.heap.setIfInBounds it o'}:=λo'=>by
    simp only[setObj,Sem.run,i]
  simp only[f,Array.getElem?_map,af5 u,Ym,gl,eR,Result.andThen];rfl
def Qz(h:WR T n B0 ρ F R fr H a w){x r:AV}{G:Value}(b:CZ x H=some r)(u:fx F ρ x G):∃v,(Instr.entry G).run P w=.ok v w/\fx F ρ r v:=by
 unfold CZ at b
 split at b
 .rename_i i
  split at b
  .rename_i o since seen hi
   split at b
   .rename_i ks xs j M N
    split at b
    .rename_i k v I O
     split at b
     .rename_i Q;obtain⟨hlen,y⟩:=Q;injection b with b;subst b;obtain⟨rfl,S⟩:=tQ u;obtain⟨ob,g1,g2⟩:=h.g.j2 i _ hi;obtain⟨rfl,U⟩:=g2.M0;obtain⟨V,W,X⟩:=h.g.j2 o _ M;obtain⟨es,clock,rfl,J,K,A,L,e5⟩:=X.zX;rw[hlen] at A L;subst L;rw[<-h.hn] at K;obtain⟨Y,f,B⟩:=K.get O
      have C:j<clock:=by rw[<-hlen];exact(mH.1 I).1
      have l:j<es.toList.length:=by
       have:(es.toList.map (·.key)).length=ks.length:=by rw[J]
       simp only[A1] at this;omega
      have c:es.toList[j]?=some es.toList[j]:=l9 l
      have Z:es.toList[j].born=j:=by
       have q:(es.toList.map (·.born))[j]?=some es.toList[j].born:=by rw[yA,c];rfl
       rw[A,aeR C] at q;exact(fU q).symm
      have s:es.toList[j].key=k:=by
       have q:=FE J c;rw[I] at q;exact(fU q).symm
      have t:es.toList[j].val=Y:=by
       rw[yA,c] at f;exact fU f
      have hf:es.find? (·.born==j)=some es.toList[j]:=by
       rw[<-Array.find?_toList]
       have D:(es.toList.map (·.born)).Nodup:=by rw[A];exact List.nodup_range
       have:=find_born es.toList[j] es.toList D (CC l);rw[Z] at this;exact this
      have d:seen.toArray.back?=some j:=by
       rw[<-N];simp
      refine⟨.tuple #[es.toList[j].key,es.toList[j].val],?_,.p (.tuple (vs:=[es.toList[j].key,es.toList[j].val]) (.cons (by rw[s];exact .sc y) (.cons (by rw[t];exact B) .nil)))⟩;simp only[Instr.entry,getObj,gl,Sem.run,g1,W,Result.andThen,d,bne_self_eq_false,oo,lS,hf];rfl
     .cases b
    .cases b
   .cases b
  .cases b
 .cases b
def Ph{G0:Nat->Nat}{F0:jo}{n0:Nat}{w0:World}(h:WR T n w0.heap.size ρ F R fr H a w)(A:Ext w0.heap.size G0 F0 n0 w0 ρ.G F H.length w){x:AV}{Y:Value}{dst:Option Nat}{K:Fr->cZ->Prop}(ty:TypeId)
  (f:Ji x dst K fr H) (Z:∀d,dst=some d->d<n) (B:fx F ρ x Y):∃v w' fr' H',(Instr.next Y false ty).run P w=.ok v w'/\K fr' H'/\SR T n G0 F0 n0 w0 fr' H' (a.put dst v) w':=by
 unfold Ji at f
 split at f
 .rename_i i
  split at f
  .rename_i o since seen hi
   split at f
   .rename_i ks xs ho;obtain⟨hlen,C,D,I⟩:=f;obtain⟨rfl,ad⟩:=tQ B;obtain⟨ob,g1,g2⟩:=h.g.j2 i _ hi;obtain⟨rfl,J⟩:=g2.M0;obtain⟨ae,h1,h2⟩:=h.g.j2 o _ ho;obtain⟨es,clock,rfl,e1,L,y,e4,e5⟩:=h2.zX;rw[hlen] at y e4;subst e4;rw[<-h.hn] at L
    have af:es.toList.length=ks.length:=by rw[<-e1];simp
    rcases Ik (P:=P) w ty g1 h1 y with⟨l,c⟩|⟨e,he,M,N,k,c⟩
    .refine⟨_,_,_,_,c,D ?_,ρ,F,R,h.put Z (.p (.tuple (vs:=[.bool false]) (.cons (.sc rfl) .nil))),A⟩;intro j hj
     have q:j<es.toList.length:=VW
     have hm:=l es.toList[j] (CC q)
     have O:(es.toList.map (·.born))[j]?=some es.toList[j].born:=by rw[yA,l9 q];rfl
     rw[y,aeR VW] at O
     have:j=es.toList[j].born:=by simpa using O
     rw[this];simpa using hm
    .obtain⟨b1,Q⟩:=ML y he;have hk:ks[e.born]?=some e.key:=FE e1 Q
     have S:(es.toList.map (·.val))[e.born]?=some e.val:=by rw[yA,Q];rfl
     have ah:xs.length=es.toList.length:=by have:=L.length;simpa using this
     obtain⟨v,hv⟩:∃v,xs[e.born]?=some v:=⟨_,l9 (by have:=(mH.1 Q).1;omega)⟩;obtain⟨vv,r,U⟩:=L.get hv
     have:vv=e.val:=by rw[S] at r;simpa using r.symm
     subst this;have s:vU e.key=true:=j3.1 C _ (Gt hk);have V:=I e.born e.key v hk hv (by simpa using M)
     have t:WR T n w0.heap.size ρ F R fr H a N:=by
      rcases k with rfl|rfl
      .exact h
      .exact h.drew
     have u:Ext w0.heap.size G0 F0 n0 w0 ρ.G F H.length N:=by
      rcases k with rfl|rfl
      .exact A
      .exact A.drew
     have W:N.heap[ρ.G i]?=some (.mapIter (some (ρ.G o)) clock seen.toArray clock):=by
      rcases k with rfl|rfl
      .exact g1
      .exact g1
     obtain⟨s1,s2⟩:=heap_set (o':=.mapIter (some (ρ.G o)) clock (seen.toArray.push e.born) clock) W
     have X:kD F ρ.G ρ.n [.lU o clock (seen++[e.born])] (.mapIter (some (ρ.G o)) clock (seen.toArray.push e.born) clock):=by
      have:=kD.iter (F:=F) (G:=ρ.G) (n:=ρ.n) (o:=o) (since:=clock) (seen:=seen++[e.born]) (by rw[h.hn];exact J);simpa using this
     refine⟨_,_,_,_,c,V,ρ,F,R,(t.GZ hi acZ acZ s1 s2 X).put Z (.p (.tuple (vs:=[.bool true,e.key,e.val]) (.cons (.sc rfl) (.cons (.sc s) (.cons U .nil))))),?_⟩;rw[SV];refine u.NC rfl rfl rfl acZ λb O hn=>s2 b ?_;rintro rfl;exact hn i (mH.1 hi).1 rfl
   .exact f.elim
  .exact f.elim
 .exact f.elim
end
end Go.kQ
