/- Part of the proof of TheoryNeeds: layer. -/
import Derived.Great.BuildSlice
import Derived.Lib.AppendStr
import Derived.MapKept
import Derived.Laws.IdiomRangeMap
import Derived.Test.YtjgjcpnoaeljkaaGreatDoorNL3
set_option linter.all false
namespace Go.kC
open Go
section
variable{B:Nat} {G G':Nat->Nat} {F F':jo} {n:Nat} {G0:Nat->Nat} {F0:jo} {n0:Nat} {w0 w w':World}
def Ext.NI(h:Ext B G0 F0 n0 w0 G F n w)(a:w'.os=w.os)(c:w'.tape=w.tape)(d:w'.output=w.output)(hs:w.heap.size<=w'.heap.size)
  (f:∀b,b<B->(∀o,o<n->G o≠b)->w'.heap[b]?=w.heap[b]?):Ext B G0 F0 n0 w0 G F n w':=
 h.trans ⟨a,c,d,hs,gO _,λ_ _=>rfl,λ_ h i=>absurd i VW,λ_ _ _ _=>rfl,λ_ _ _ _ h=>h,f⟩
def Ext.drew(h:Ext B G0 F0 n0 w0 G F n w):Ext B G0 F0 n0 w0 G F n w.drew:=h.NI rfl rfl rfl (gO _) λ_ _ _=>rfl
def Ext.alloc(h:Ext B G0 F0 n0 w0 G F n w)(a:B<=w.heap.size)(o:Obj):Ext B G0 F0 n0 w0 G F n (w.alloc o):=
 h.NI rfl rfl rfl aaL λb c _=>heap_alloc_old w o VW
def Ext.setRow(h:Ext B G0 F0 n0 w0 G F n w){g:Nat}(hg:B<=g\/∃o,o<n/\G o=g)(cs:Array Value):Ext B G0 F0 n0 w0 G F n (w.setRow g cs):=
 h.NI rfl rfl rfl (by rw[size_setRow];exact gO _) λb c hn=>setRow_other w g b cs (by
  rintro rfl;rcases hg with hg|⟨o,a,hg⟩
  .omega
  .exact hn o a hg)
def Ext.freeze(h:Ext B G0 F0 n0 w0 G F n w)(hF:∀b j,b<B->F' b j=F b j):Ext B G0 F0 n0 w0 G F' n w:=
 h.trans ⟨rfl,rfl,rfl,gO _,gO _,λ_ _=>rfl,λ_ h c=>absurd c VW,λb j a _=>hF b j a,λb j v a d=>(hF b j a).trans d,λ_ _ _=>rfl⟩
def Ext.Y3(h:Ext B G0 F0 n0 w0 G F n w)(hF:∀b j,(∀o,o<n->G o≠b)->F' b j=F b j)(mF:∀b j v,F b j=some v->F' b j=some v):Ext B G0 F0 n0 w0 G F' n w:=
 h.trans ⟨rfl,rfl,rfl,gO _,gO _,λ_ _=>rfl,λ_ h a=>absurd a VW,λb j _ hg=>hF b j hg,λb j v _ c=>mF b j v c,λ_ _ _=>rfl⟩
def Ext.ae2(h:Ext B G0 F0 n0 w0 G F n w)(hG:∀o,o<n->G' o=G o)(hn:B<=G' n):Ext B G0 F0 n0 w0 G' F (n+1) w:=
 h.trans ⟨rfl,rfl,rfl,gO _,VW,hG,λo a b=>(by rw[show o=n from VW];exact hn),λ_ _ _ _=>rfl,λ_ _ _ _ h=>h,λ_ _ _=>rfl⟩
end
def SR(T:dt)(n:Nat)(G0:Nat->Nat)(F0:jo)(n0:Nat)(w0:World)(fr:Fr)(H:cZ)(a:Act)(w:World):Prop:=
 ∃ρ F R,WR T n w0.heap.size ρ F R fr H a w/\Ext w0.heap.size G0 F0 n0 w0 ρ.G F H.length w
def sP(P:Program)(fr:Fr)(H:cZ)(t:TypeId)(x:AV):Option AV:=
 match x with
 |.lx v=>if qG P t v then some v else none|.gx b g off=>if g=fr.gen b then(match fr.box b with|some cs=>lB P t cs off|none=>none)else none
 |.eb o off=>match H[o]?with|some cs=>if qK cs then lB P t cs off else none|none=>none
 |_=>none
section
variable{P:Program} {T:dt} {n B0:Nat} {ρ:Maps} {F:jo} {R:Nat->nb} {fr:Fr} {H:cZ} {a:Act} {w:World}
def SL{t:TypeId}{v:AV}(h:qG P t v=true):(∃k cs,ew P t=some (true,k)/\v=.agg cs/\cs.length=k)\/(∃k,ew P t=some (false,k)/\v.fJ=true):=by
 unfold qG at h;cases a:ew P t with
 |none=>grind|some p=>
  obtain⟨b,k⟩:=p;rw[a] at h;cases b
  .cases v<;>first|(simp at h;done)|exact .inr ⟨k,rfl,rfl⟩
  .grind
def yE(w:World){t:TypeId}{b off:Nat}{cs:List AV}{vs:Array Value}{ty:TypeId}{f:Nat×Nat}{z:AV}(l:w.heap[b]?=some (.cells vs ty f))
  (a:fU (iF F ρ) cs vs.toList) (d:∀c∈cs,c.fJ=true) (o:lB P t cs off=some z):∃v,(Instr.loadAt t (.pointer (some ⟨b,off,none⟩))).run P w=.ok v w/\fv F ρ z v:=by
 unfold Instr.loadAt;rcases yk o with⟨k,h,hle,rfl⟩|⟨k,h,i⟩
 .refine⟨.agg ((vs.toList.drop off).take k).toArray,?_,.agg ((a.drop off).take k) (λc i=>d c (Hc (AF i)))⟩;refine xJ h w ⟨b,off,none⟩ _ (by have:=a.length;simp only[xS,Wq];omega) ?_;intro j v n;rw[Addr.add_lit,cell_of_row w b _ vs ty f l]
  grind
 .obtain⟨v,n,q⟩:=a.get i;refine⟨v,?_,.cell q⟩;refine xM h w ⟨b,off,none⟩ v ?_;rw[cell_of_row w b _ vs ty f l];simpa using n
def JR(h:WR T n B0 ρ F R fr H a w){t:TypeId}{x z:AV}{u:Value}(c:sP P fr H t x=some z)(q:fv F ρ x u):∃v,(Instr.loadAt t u).run P w=.ok v w/\fv F ρ z v:=by
 unfold sP at c
 split at c
 .rename_i v
  split at c
  .rename_i C;injection c with c;subst c;obtain⟨b,o,vs,rfl,f,r,s⟩:=Dj q;unfold Instr.loadAt;simp only[Instr.sureAddr,gk,oA,jj];rcases SL C with⟨k,cs,d,rfl,D⟩|⟨k,d,l⟩
   .refine⟨.agg vs.toArray,?_,.p (.agg f s)⟩;refine xJ d w ⟨b,o,none⟩ vs (by rw[<-f.length];exact D) ?_;intro j v G;rw[Addr.add_lit];exact h.g.Cp b _ v (r j v G)
   .rw[AV.cells_one l] at f;cases f with
    |cons f hn=>
     cases hn;rename_i u;refine⟨u,?_,.p f⟩;refine xM d w ⟨b,o,none⟩ u ?_;exact h.g.Cp b o u (r 0 u rfl)
  .cases c
 .rename_i b g off
  split at c
  .rename_i hg
   split at c
   .rename_i cs y;obtain⟨rfl,_⟩:=wq q;obtain⟨f,r,s,vs,ty,A,i⟩:=h.box b cs y;rw[hg];exact yE w A i s c
   .cases c
  .cases c
 .rename_i o off
  split at c
  .rename_i cs y
   split at c
   .rename_i B;obtain⟨rfl,_⟩:=tN q;obtain⟨ob,A,i⟩:=h.g.jU o cs y;obtain⟨vs,ty,J,rfl,_,i,I⟩:=i.BZ B;rw[<-h.hn] at i;exact yE w A (i.mono λ_ _ _ h=>.p h) I c
   .cases c
  .cases c
 .cases c
def SJ{w:World}{b j:Nat}{vs:Array Value}{ty:TypeId}{a:Nat×Nat}(d:w.heap[b]?=some (.cells vs ty a))(c:Pn a vs.size)(f:j<vs.size):w.frozen? ⟨b,j,none⟩=false:=by
 unfold World.frozen?;rcases c with h|h
 all_goals grind
theorem q9(P:Program)(b o:Nat)(ty:TypeId)(a:Nat×Nat):∀(us:List Value) (i:Nat) (vs:Array Value) (w:World),w.heap[b]?=some (.cells vs ty a)->Pn a vs.size->o+i+us.length<=vs.size->(∀u∈us,u.oneCell'=true)->(storeCells ⟨b,o,none⟩ us i).run P w=.ok () (w.setRow b (vs.toList.take (o+i)++us++vs.toList.drop (o+i+us.length)).toArray)
 |[],i,vs,w,c,_,_,_=>by
  have e:=setRow_self w b vs ty a c;simp only[storeCells,uF,wC,HA,List.take_append_drop,St,e];rfl
 |u::us,i,vs,w,c,l,q,n=>by
  simp only[kY] at q
  have d:o+i<vs.size:=VW
  have r:w.cell? ⟨b,o+i,none⟩=some vs[o+i]:=by
   rw[cell_of_row w b _ vs ty a c];exact aed d
  have hs:(store ((⟨b,o,none⟩:Addr).add i) u).run P w=.ok () (w.setRow b (vs.setIfInBounds (o+i) u)):=by
   rw[Addr.add_lit,run_store P w _ u _ (n u aaL),r];simp[SJ c l d,setCell_eq_setRow w b (o+i) vs ty a u c]
  have h:=setRow_heap w b vs (vs.setIfInBounds (o+i) u) ty a c;have ih:=q9 P b o ty a us (i+1) _ _ h (by simpa using l) acz (λx s=>n x (by simp[s]));rw[storeCells];simp only[gk,hs,jj];rw[ih,setRow_setRow]
  congr 2
  apply Dh.1;simp only[afj];apply Um;intro j;simp only[s6,kY,Y9]
  have f:∀k,k<=vs.toList.length->(vs.toList.take k).length=k:=λk B=>by rw[xS];omega
  have t:vs.toList.length=vs.size:=aaL
  rcases ae3 j (o+i)with hj|hj|hj
  .grind
  .grind
  .have v:∀X:List Value,((vs.toList.set (o+i) u).take (o+(i+1))++X)[j]?=X[j-(o+(i+1))]?:=λX=>by
    have y:((vs.toList.set (o+i) u).take (o+(i+1))).length=o+(i+1):=by rw[xS,Po];omega
    rw[xT VW,y]
   have A:∀X:List Value,(vs.toList.take (o+i)++u::X)[j]?=X[j-(o+(i+1))]?:=λX=>by
    rw[xT (by rw[f _ VW];omega),f _ VW,show j-(o+i)=(j-(o+(i+1)))+1 by omega,lQ]
   rw[v,A];rcases sH (j-(o+(i+1))) us.length with hu|hu
   .rw[tz hu,tz hu]
   .rw[xT hu,xT hu,Sx,Sx,J0 VW]
    congr 1
    omega
def xR(w:World){t:TypeId}{b off k:Nat}{bl:Bool}{vs:Array Value}{ty:TypeId}{a:Nat×Nat}{v:Value}(h:w.heap[b]?=some (.cells vs ty a))(d:Pn a vs.size)
  (f:ew P t=some (bl,k)) (i:v.cells.size=k) (c:off+k<=vs.size) (j:∀u∈v.cells.toList,u.oneCell'=true):(Instr.storeAt t (.pointer (some ⟨b,off,none⟩)) v).run P w=.ok () (w.setRow b (vs.toList.take off++v.cells.toList++vs.toList.drop (off+v.cells.toList.length)).toArray):=by
 unfold Instr.storeAt;simp only[Instr.sureAddr,gk,oA];unfold storeVar;simp only[gk,jR f,jj]
 grind[q9]
end
def j9(E:List Nat)(dst:Option Nat)(cells:List AV)(K:Fr->cZ->Prop)(fr:Fr)(H:cZ):Prop:=
 match dst with
 |some d=>
  if E.contains d then K {fr with env:=fO fr.env d (.eb H.length 0)} (H++[cells.map AV.ke])
  else K {fr with env:=fO fr.env d (.gx d (fr.gen d+1) 0),box:=fO fr.box d (some cells),gen:=fO fr.gen d (fr.gen d+1)} H
 |none=>False
def kQ(P:Program)(t:TypeId)(x v:AV)(K:Fr->cZ->Prop)(fr:Fr)(H:cZ):Prop:=
 match ew P t with
 |none=>False|some (_,n)=>
  match x with
  |.gx b g off=>
   match fr.box b with
   |some cs=>g=fr.gen b/\v.cells.length=n/\off+n<=cs.length/\eo v=true/\K {fr with box:=fO fr.box b (some (setCells cs off v.cells))} H|none=>False
  |.eb o off=>
   match H[o]?with
   |some cs=>qK cs=true/\v.cells.length=n/\off+n<=cs.length/\eo v=true/\K fr (H.set o (setCells cs off v.norm.cells))|none=>False
  |_=>False
section
variable{P:Program} {T:dt} {n:Nat} {G0:Nat->Nat} {F0:jo} {n0:Nat} {w0:World} {fr:Fr} {H:cZ} {a:Act} {w:World}
theorem AV.sb{x:AV}(h:eo x=true):x.norm.cells=x.cells.map AV.ke:=by
 cases x<;>first|rfl|(simp[eo] at h)
theorem zF{cs:List AV}(h:∀c∈cs,c.fJ=true):∀c∈cs.map AV.ke,c.fJ=true:=by grind[AV.Ed]
def iO{F:jo}{ρ:Maps}{cs:List AV}{vs:List Value}(h:fU (iF F ρ) cs vs)(a:∀c∈cs,c.fJ=true):∀u∈vs,u.oneCell'=true:=by
 intro u hu;obtain⟨x,b,d⟩:=h.mem hu;exact d.Ki (a x b)
def D7{ρ:Maps}{F:jo}{R:Nat->nb}(h:WR T n w0.heap.size ρ F R fr H a w)(s:Ext w0.heap.size G0 F0 n0 w0 ρ.G F H.length w){E:List Nat}{dst:Option Nat}{cells:List AV}{K:Fr->cZ->Prop}
  (k:j9 E dst cells K fr H) (u:∀d,dst=some d->d<n) {vs:Array Value} (ty:TypeId) (l:fU (iF F ρ) cells vs.toList) (f:∀c∈cells,c.fJ=true):∃fr' H',K fr' H'/\SR T n G0 F0 n0 w0 fr' H' (a.put dst (.pointer (some ⟨w.heap.size,0,none⟩))) (w.alloc (.cells vs ty)):=by
 unfold j9 at k
 split at k
 .rename_i d;have o:=u d rfl;have t:=h.alloc (.cells vs ty);have b:R w.heap.size=.free:=h.k4 _ (gO _);have hF:∀j,F w.heap.size j=none:=λj=>h.g.fresh _ j (gO _);have i:(w.alloc (.cells vs ty)).heap[w.heap.size]?=some (.cells vs ty (0,0)):=heap_alloc_new w _
  split at k
  .obtain⟨ρ',q,hG,r,hw⟩:=t.abB b hF i (l.wI AV.ke λ_ _ _ h=>h.ke) (zF f) o;refine⟨_,_,k,ρ',F,q,hw,?_⟩;rw[rF];exact(s.alloc h.qi _).ae2 hG (by rw[r];exact h.qi)
  .obtain⟨ρ',q,hG,hw⟩:=t.aas h.qi b hF i l f o;refine⟨_,_,k,ρ',F,q,hw,?_⟩;rw[hG];exact s.alloc h.qi _
 .exact k.elim
def Qc(w:World){t:TypeId}{z:Value}(a:zeroOf P t=some z):(Instr.alloc t true (.tuple #[])).run P w=.ok (.pointer (some ⟨w.heap.size,0,none⟩)) (w.alloc (.cells z.cells t)):=by
 have b:(zeroValue t).run P w=.ok z w:=by
  unfold zeroOf at a;cases hi:P.info? t with
  |none=>rw[hi] at a;cases a
  |some i=>
   rw[hi] at a;simp at a;simp[zeroValue,typeInfo,hi,a]
 unfold Instr.alloc;simp only[gk,b];rfl
theorem Av{v:Value}(h:xA v=true)(a:∀vs,v≠ .tuple vs):(ofValue v).cells=v.cells.toList.map pN/\∀u∈v.cells.toList,u.oneCell'=true:=by
 cases v with
 |agg cs=>
  refine⟨rfl,λu hu=>?_⟩
  have b:cs.all (·.oneCell')=true:=h
  exact Fs.1 b u (wU.1 hu)
 |tuple vs=>grind|_=>
  constructor
  .rw[D9 rfl];exact AV.cells_one (xB _)
  .simp[Value.cells,Value.oneCell']
def NU{ρ:Maps}{F:jo}{R:Nat->nb}(h:WR T n w0.heap.size ρ F R fr H a w)(N:Ext w0.heap.size G0 F0 n0 w0 ρ.G F H.length w){t:TypeId}{x v:AV}{O s:Value}{K:Fr->cZ->Prop}
  (i:kQ P t x v K fr H) (y:fv F ρ x O) (l:fv F ρ v s):∃fr' H' w',(Instr.storeAt t O s).run P w=.ok () w'/\K fr' H'/\SR T n G0 F0 n0 w0 fr' H' a w':=by
 unfold kQ at i
 split at i
 .exact i.elim
 .rename_i bl k Q
  split at i
  .rename_i b g off
   split at i
   .rename_i cs A;obtain⟨hg,V,B,f,i⟩:=i;obtain⟨rfl,_⟩:=wq y;obtain⟨W,Y,S,vs,ty,I,r⟩:=h.box b cs A;have d:=l.cells (gT f);have hlen:=d.length
    have u:s.cells.toList.length=s.cells.size:=aaL
    have J:cs.length=vs.size:=by simpa using r.length
    have eO:=r.setCells d off;rw[hlen] at eO;rw[hg]
    have j:∀c∈setCells cs off v.cells,c.fJ=true:=by
     intro c C;simp only[setCells,rA] at C;rcases C with(hm|hm)|hm
     .exact S c (AF hm)
     .exact l.r7 (gT f) c hm
     .exact S c (Hc hm)
    refine⟨_,_,_,xR w I (.inl rfl) Q VW VW (iO d (l.r7 (gT f))),i,ρ,F,R,h.VR A (by simpa using eO) j,N.setRow (.inl W) _⟩
   .exact i.elim
  .rename_i o off
   split at i
   .rename_i cs A;obtain⟨D,V,B,f,i⟩:=i;obtain⟨rfl,X⟩:=tN y;obtain⟨ob,I,r⟩:=h.g.jU o cs A;obtain⟨vs,ty,Z,rfl,L,r,U⟩:=r.BZ D;have d:=l.cells (gT f);have hlen:=d.length
    have u:s.cells.toList.length=s.cells.size:=aaL
    have J:cs.length=vs.size:=by simpa using r.length
    have q:fU (fE F ρ.G ρ.n) v.norm.cells s.cells.toList:=by
     rw[AV.sb f];exact d.wI AV.ke λ_ _ _ h=>h.ke
    rw[<-h.hn] at r;have eO:=r.setCells q off
    have M:v.norm.cells.length=v.cells.length:=by rw[AV.sb f];simp
    rw[M,hlen] at eO
    have j:∀c∈setCells cs off v.norm.cells,c.fJ=true:=by
     intro c C;simp only[setCells,rA] at C;rcases C with(hm|hm)|hm
     .exact U c (AF hm)
     .rw[AV.sb f] at hm;exact zF (l.r7 (gT f)) c hm
     .exact U c (Hc hm)
    refine⟨_,_,_,xR w I L Q VW VW (iO d (l.r7 (gT f))),i,ρ,F,R,h.Qs A D (by simpa using eO) (by simp only[setCells,rF,xS,Wq];omega) j,?_⟩;rw[Po];exact N.setRow (.inr ⟨o,by rw[<-h.hn];exact X,rfl⟩) _
   .exact i.elim
  .exact i.elim
end
end Go.kC
namespace Go.kC
open Go
def mK(P:Program)(t:TypeId):Option (TypeId×Nat):=
 match P.underlying t with
 |some (.slice e)=>
  match P.info? e with
  |some i=>
   match i.zero with
   |some z=>if z.cells.size=i.size/\i.bytes<=256/\0<i.size/\z.cells.toList.all Value.oneCell' then some (e,i.size)else none|none=>none
  |none=>none
 |_=>none
def jn:Nat:=549755813888
section
variable{P:Program}
def mi{t e:TypeId}{sz:Nat}(h:mK P t=some (e,sz)):∃i z,P.underlying t=some (.slice e)/\P.info? e=some i/\i.zero=some z/\z.cells.size=sz/\i.size=sz/\i.bytes<=256/\0<sz:=by grind[mK]
def fill_flat{sz:Nat}:∀(pv:List Value) (k:Nat) (pre rest:List Value),(∀v∈pv,v.cells.size=sz)->pre.length=k*sz->rest.length=pv.length*sz->Instr.fill (λi=>some (i*sz,sz)) (pre++rest).toArray ((pv.zipIdx k).map λx=>(x.2,x.1))=some (pre++pv.flatMap λv=>v.cells.toList).toArray:=by
 intro pv
 induction pv with
 |nil=>
  intro k pre rest _ _ h;have:rest=[]:=z8 (by simpa using h);subst this;simp[Instr.fill]
 |cons v pv ih=>
  intro k pre rest d j h;have l:=d v aaL
  have f:v.cells.toList.length=sz:=by simp[l]
  rw[kY,AO,Yq] at h;have a:=foldl_set v.cells.toList 0 (k*sz) (pre++rest).toArray (by simp only[YX,rF,HA];omega);simp only[HA,f] at a
  have n:(pre++rest).toArray.toList.take (k*sz)=pre:=by simp[<-j]
  have o:(pre++rest).toArray.toList.drop (k*sz+sz)=rest.drop sz:=by
   simp only[];rw[abC];rw[HE VW,od,<-j]
   congr 1
   omega
  rw[n,o] at a;have c:=ih (k+1) (pre++v.cells.toList) (rest.drop sz) (λu hu=>d u (by simp[hu])) (by rw[rF,j,f,AO,Yq]) (by rw[Wq,h];omega);simp only[List.zipIdx_cons,CN]
  show(if(decide (v.cells.size≠sz)||decide (k*sz+v.cells.size>(pre++rest).toArray.size)) then none
   else Instr.fill (λi=>some (i*sz,sz)) (v.cells.zipIdx.foldl (λcs (x:Value×Nat)=>cs.setIfInBounds (k*sz+x.2) x.1) (pre++rest).toArray) ((pv.zipIdx (k+1)).map λx=>(x.2,x.1)))=_
  rw[cO (by simp only[l,YX,rF];simp;omega),<-ae8,af5]
  have b:List.foldl (λcs (x:Value×Nat)=>cs.setIfInBounds (k*sz+x.2) x.1) (pre++rest).toArray v.cells.toList.zipIdx=(pre++v.cells.toList++rest.drop sz).toArray:=by
   apply Dh.1;rw[a]
  rw[b,c];simp[Fp,s6]
end
section
variable{T:dt} {n B0:Nat} {ρ:Maps} {F:jo} {R:Nat->nb} {fr:Fr} {H:cZ} {a:Act} {w:World}
def im(F:jo)(b k:Nat)(vs:List Value):jo:=λa j=>if a=b/\j<k then vs[j]?else F a j
def u9(F:jo)(b:Nat)(vs:List Value):(im F b vs.length vs).has b 0 vs:=by
 intro i v a;show(if b=b/\0+i<vs.length then vs[0+i]?else F b (0+i))=some v
 grind
def WR.freeze(h:WR T n B0 ρ F R fr H a w){b:Nat}{vs:Array Value}{ty:TypeId}{k:Nat}{us:List Value}(q:R b=.free)(hF:∀j,F b j=none)
  (C:w.heap[b]?=some (.cells vs ty (0,0))) (u:Ft vs) (D:∀j v,j<k->us[j]?=some v->vs[j]?=some v):tk F (im F b k us) ρ ρ/\WR T n B0 ρ (im F b k us) R fr H a w:=by
 have hold:∀i j v,F i j=some v->im F b k us i j=some v:=by grind[im]
 have f:∀i j,i≠b->im F b k us i j=F i j:=by
  intro i j I;unfold im;rw[cO (λh=>I h.1)]
 have s:∀G n,Grow F (im F b k us) G G n n:=λG n=>⟨hold,gO _,λ_ _=>rfl⟩;have t:tk F (im F b k us) ρ ρ:=⟨s _ _,λ_=>gO _,λ_ _ _=>rfl,λ_=>gO _,λ_ _ _=>rfl⟩;refine⟨t,⟨⟨?_,?_,h.g.inj,?_,?_,λg x P=>(h.g.xX g x P).grow (s _ _),?_⟩,h.size,h.defers,h.env.grow t,h.hn,h.lg,h.ag,?_,?_,?_,h.na,h.k4,h.qi⟩⟩
 .intro i j v r;unfold im at r
  split at r
  .rename_i Q;obtain⟨rfl,S⟩:=Q;rw[cell_of_row w i j vs ty (0,0) C];exact D j v S r
  .exact h.g.Cp i j v r
 .intro o cs y;obtain⟨J,A,B⟩:=h.g.jU o cs y;exact⟨J,A,B.grow (s _ _)⟩
 .intro o j y K;rw[f]
  .exact h.g.gF o j y K
  .rintro rfl;have:=h.na o y;rw[q] at this;cases this
 .intro i j l;rw[f]
  .exact h.g.fresh i j l
  .rintro rfl;have:=oz C;omega
 .intro U i j v r
  by_cases l:i=b
  .subst l;exact⟨vs,ty,_,C,.inl rfl,u⟩
  .rw[f _ _ l] at r;exact h.g.row U i j v r
 .intro d cs V;obtain⟨A,B,M,vs',L,N,O⟩:=h.box d cs V;exact⟨A,B,M,vs',L,N,O.mono λ_ _ _ h=>h.grow t⟩
 .intro k' m W i c sz X;obtain⟨A,B,M,Y,N,O⟩:=h.tok k' m W i c sz X
  grind
 .intro i j v r
  by_cases l:i=b
  .subst l;rw[q];simp
  .rw[f _ _ l] at r;exact h.qF i j v r
def la{F:jo}{b k:Nat}{us:List Value}{a j:Nat}(h:a≠b):im F b k us a j=F a j:=by grind[im]
end
def lZ(P:Program)(t n:Nat)(parts:List (Nat×AV)):Option AV:=
 match mK P t with
 |some (_,sz)=>
  if parts.map (·.1)=List.range n/\parts.all (λp=>p.2.cells.length==sz&&eo p.2)=true/\n*sz<=16777216 then some (.slice .full (parts.map λp=>p.2.norm))else none
 |none=>none
def EH{α:Type}(parts:List (Nat×α))(n:Nat)(h:parts.map (·.1)=List.range n):parts=(parts.map (·.2)).zipIdx.map λx=>(x.2,x.1):=by
 apply List.ext_getElem
 .simp
 .intro i a b
  have c:(parts.map (·.1))[i]?=(List.range n)[i]?:=by rw[h]
  grind
section
variable{P:Program} {T:dt} {n:Nat} {G0:Nat->Nat} {F0:jo} {n0:Nat} {w0:World} {fr:Fr} {H:cZ} {a:Act} {w:World}
def EG(w:World){t e:TypeId}{sz:Nat}(h:mK P t=some (e,sz)):(Instr.buildSlice t 0 #[]).run P w=.ok (.slice (some ⟨w.heap.size,0,none⟩) 0 0) (w.alloc (.cells #[] e)):=by
 obtain⟨i,z,hu,hi,a,_⟩:=mi h;simp[Instr.buildSlice,run_underlying hu,sizeOf,typeInfo,hi,Instr.fill,newRow]
 grind
def PI{F:jo}{ρ:Maps}:∀{parts:List (Nat×AV)} {pv:List (Nat×Value)},fU (λ(x:Nat×AV) (y:Nat×Value)=>x.1=y.1/\fv F ρ x.2 y.2) parts pv->(∀p∈parts,eo p.2=true)->fU (fE F ρ.G ρ.n) ((parts.map λp=>p.2.norm).flatMap AV.cells) ((pv.map (·.2)).flatMap λv=>v.cells.toList)/\∀c∈(parts.map λp=>p.2.norm).flatMap AV.cells,c.fJ=true:=by
 intro parts pv h hn
 induction h with
 |nil=>exact⟨.nil,aaL⟩|@cons p q ps j d _ ih=>
  obtain⟨i1,i2⟩:=ih λp f=>hn p (by simp[f]);have a:=hn p aaL;have i:=d.2.cells (gT a);have k:=d.2.r7 (gT a)
  have b:fU (fE F ρ.G ρ.n) p.2.norm.cells q.2.cells.toList:=by
   rw[AV.sb a];exact i.wI AV.ke λ_ _ _ h=>h.ke
  refine⟨?_,?_⟩
  .exact b.append i1
  .grind[AV.sb,zF]
def zc{ρ:Maps}{F:jo}(w:World){t k:Nat}{parts:List (Nat×AV)}{pv:List (Nat×Value)}{r:AV}
  (f:lZ P t k parts=some r) (b:fU (λ(x:Nat×AV) (y:Nat×Value)=>x.1=y.1/\fv F ρ x.2 y.2) parts pv):∃l us e sz,r=.slice .full l/\l.length=k/\k<=maxLen/\(∀x∈l,x.cells.length=sz)/\fU (fE F ρ.G ρ.n) (l.flatMap AV.cells) us/\(∀c∈l.flatMap AV.cells,c.fJ=true)/\(Instr.buildSlice t k pv.toArray).run P w=.ok (.slice (some ⟨w.heap.size,0,none⟩) k k) (w.alloc (.cells us.toArray e)):=by
 unfold lZ at f
 split at f
 .rename_i e sz C
  split at f
  .rename_i O;obtain⟨j,D,Q⟩:=O;injection f with f;subst f;obtain⟨i,z,hu,hi,R,S,o,T,h⟩:=mi C
   have a:∀p∈parts,p.2.cells.length=sz/\eo p.2=true:=by
    intro p B;have:=jY.1 D p B;simpa using this
   have s:parts.length=k:=by have:=congrArg List.length j;simpa using this
   have u:pv.length=k:=by rw[<-b.length];exact s
   have H:pv.map (·.1)=List.range k:=by
    rw[<-j];clear j D a s u
    induction b with
    |nil=>rfl|cons K _ ih=>simp only[CN,ih,K.1]
   have I:=EH pv k H
   have L:∀v∈pv.map (·.2),v.cells.size=sz:=by
    intro v U;obtain⟨q,V,rfl⟩:=nw.1 U;obtain⟨p,B,W⟩:=b.mem V;have K:=W.2.cells (gT (a p B).2);have:=K.length;rw[(a p B).1] at this;simpa using this.symm
   obtain⟨A,d⟩:=PI b λp B=>(a p B).2
   have J:(Instr.buildSlice t k pv.toArray).run P w=.ok (.slice (some ⟨w.heap.size,0,none⟩) k k) (w.alloc (.cells ((pv.map (·.2)).flatMap λv=>v.cells.toList).toArray e)):=by
    rcases Nat.eq_zero_or_pos k with M|hkpos
    .subst M;have:pv=[]:=z8 u;subst this;exact EG w C
    .have N:=fill_flat (sz:=sz) (pv.map (·.2)) 0 [] ((Array.range (k*sz)).map (z.cells[· %z.cells.size]!)).toList L aaL (by simp[u])
     rw[<-I] at N;simp only[od,St] at N;exact run_buildSlice w t e k pv.toArray _ i z hu hi R (by rw[o];omega) (by rw[o];have:=Nat.mul_pos hkpos h;omega) (by rw[o];exact N)
   refine⟨parts.map λp=>p.2.norm,_,e,sz,rfl,by simp[s],?_,?_,A,d,J⟩
   .have:k<=k*sz:=abS k h;simp only[maxLen];omega
   .grind[AV.sb]
  .cases f
 .cases f
def yP{ρ:Maps}{F:jo}{R:Nat->nb}(h:WR T n w0.heap.size ρ F R fr H a w)(A:Ext w0.heap.size G0 F0 n0 w0 ρ.G F H.length w){k e sz:Nat}{l:List AV}{us:List Value}
  {dst:Option Nat} (t:l.length=k) (xI:k<=maxLen) (r:∀x∈l,x.cells.length=sz) (f:fU (fE F ρ.G ρ.n) (l.flatMap AV.cells) us) (i:∀c∈l.flatMap AV.cells,c.fJ=true) (B:∀d,dst=some d->d<n):SR T n G0 F0 n0 w0 (fr.put dst (.slice .full l)) H (a.put dst (.slice (some ⟨w.heap.size,0,none⟩) k k)) (w.alloc (.cells us.toArray e)):=by
 have q:=heap_alloc_new w (.cells us.toArray e);obtain⟨s,hw⟩:=(h.alloc (.cells us.toArray e)).freeze (us:=us) (k:=us.length) (h.k4 _ (gO _)) (λj=>h.g.fresh _ j (gO _)) q (λu hu=>iO (f.mono λ_ _ _ h=>iF.p h) i u (by simpa using hu)) (by intro j v _ C;simpa using C);refine⟨ρ,_,R,hw.put B (x:=.slice .full l) (v:=.slice (some ⟨w.heap.size,0,none⟩) k k) ?_,?_⟩
 .have y:=fE.slice (F:=im F w.heap.size us.length us) (G:=ρ.G) (n:=ρ.n) (tag:=.full) (l:=l) (b:=w.heap.size) (o:=0) (base:=some ⟨w.heap.size,0,none⟩) (cap:=l.length) (sz:=sz)
   (.ox (f.mono λ_ _ _ h=>h.grow s.g)) (u9 _ _ _) (λ_=>rfl) r i (gO _) (by rw[t];exact xI) (.inr ⟨rfl,rfl⟩)
  rw[t] at y;exact .p y
 .exact(A.alloc h.qi (.cells us.toArray e)).freeze (F':=im F w.heap.size us.length us) λb j D=>la (by have:=h.qi;omega)
def CW{ρ:Maps}{F:jo}{R:Nat->nb}(h:WR T n w0.heap.size ρ F R fr H a w)(o:Ext w0.heap.size G0 F0 n0 w0 ρ.G F H.length w){t k:Nat}{parts:List (Nat×AV)}{pv:List (Nat×Value)}{r:AV}
  {dst:Option Nat} (q:lZ P t k parts=some r) (c:fU (λ(x:Nat×AV) (y:Nat×Value)=>x.1=y.1/\fv F ρ x.2 y.2) parts pv) (s:∀d,dst=some d->d<n):∃v w',(Instr.buildSlice t k pv.toArray).run P w=.ok v w'/\SR T n G0 F0 n0 w0 (fr.put dst r) H (a.put dst v) w':=by
 obtain⟨l,us,e,sz,rfl,u,xI,j,b,f,i⟩:=zc w q c;exact⟨_,_,i,yP h o u xI j b f s⟩
end
def ot(fr:Fr)(tag:Tag)(l:List AV):Bool:=
 match tag with
 |.iw=>false|.full=>true|.loc k g=>g==fr.eg k&&fr.qd k==some l.length
def tv(tag:Tag)(qd:Nat->Option Nat):Nat->Option Nat:=
 match tag with
 |.loc k _=>fO qd k none|_=>qd
def grown(fr:Fr)(d:Nat)(tag:Tag)(l m:List AV):Fr:=
 {fr with env:=fO fr.env d (.slice (.loc d (fr.eg d+1)) (l++m)),qd:=fO (tv tag fr.qd) d (some (l.length+m.length)),eg:=fO fr.eg d (fr.eg d+1)}
def l9(P:Program)(T:dt)(c:Call)(dst:Option Nat)(K:Fr->cZ->Prop)(fr:Fr)(H:cZ):Prop:=
 match dst,c.args.toList,c.argTypes.toList with
 |some d,[s,x],[t,a]=>
  match mK P t,ev T fr s,ev T fr x with
  |some (_,sz),.slice tag l,.slice _ m=>
   a=t/\kA sz l=true/\kA sz m=true/\l.length+m.length<=jn/\(if ot fr tag l then K (grown fr d tag l m) H else m=[]/\K (fr.put (some d) (.slice .iw l)) H)
  |_,_,_=>False
 |_,_,_=>False
section
variable{P:Program} {T:dt} {n:Nat} {G0:Nat->Nat} {F0:jo} {n0:Nat} {w0:World} {fr:Fr} {H:cZ} {a:Act} {w:World}
def Em(w:World){t e:TypeId}{sz:Nat}(h:mK P t=some (e,sz))(ty:TypeId)(base:Option Addr)(len cap:Nat)(a:len<=cap)(x:Value)(f:∃b c,x=.slice b 0 c):(Builtin.append_ #[t,t] ty #[.slice base len cap,x]).run P w=.ok (.slice base len cap) w:=by
 obtain⟨i,z,hu,hi,o,j,k,l,d⟩:=mi h;obtain⟨b,c,rfl⟩:=f;cases b with
 |none=>
  cases base with
  |none=>simp[Builtin.append_,run_underlying hu,sizeOf,typeInfo,hi,Builtin.lenOf,a,Builtin.firstCells]|some n=>simp[Builtin.append_,run_underlying hu,sizeOf,typeInfo,hi,Builtin.lenOf,a,Builtin.firstCells,storeCells]
 |some b=>
  cases base with
  |none=>simp[Builtin.append_,run_underlying hu,sizeOf,typeInfo,hi,Builtin.lenOf,a,Builtin.firstCells,loadCells,loadCellsFrom]|some n=>simp[Builtin.append_,run_underlying hu,sizeOf,typeInfo,hi,Builtin.lenOf,a,Builtin.firstCells,storeCells,loadCells,loadCellsFrom]
theorem wk(w:World)(t ty e n:TypeId)(i:TypeInfo)(o:P.underlying t=some (.slice e))(hi:P.info? e=some i)
  (g b d:Nat) (cur:Array Value) (hg:w.heap[g]?=some (.cells cur n (0,0)))
  (a:Addr) (m c:Nat) (news:List Value) (q:news.length=m*i.size) (f:∀j u,news[j]?=some u->w.cell? (a.add j)=some u) (r:∀u∈news,u.oneCell'=true)
  (h:b+m<=d) (k:b*i.size+news.length<=cur.size):(Builtin.append_ #[t,t] ty #[.slice (some ⟨g,0,none⟩) b d,.slice (some a) m c]).run P w=.ok (.slice (some ⟨g,0,none⟩) (b+m) d) (w.setRow g (cur.toList.take (b*i.size)++news++cur.toList.drop (b*i.size+news.length)).toArray):=by
 have s:=run_firstCells_some (P:=P) w i.size m a m c news q f;have l:=run_storeCells_at P g (b*i.size) n news 0 cur w hg (by simpa using k) r;simp[Builtin.append_,run_underlying o,sizeOf,typeInfo,hi,Builtin.lenOf,h,s,Addr.add_lit,l]
def WR.rename{ρ:Maps}{F:jo}{R:Nat->nb}{B0:Nat}(h:WR T n B0 ρ F R fr H a w){tag:Tag}{l:List AV}{base:Option Addr}{cap d:Nat}(hd:d<n)
  (hp:fE F ρ.G ρ.n (.slice .iw l) (.slice base l.length cap)) (K:tag=.full/\cap=l.length\/∃k g,tag=.loc k g/\g=fr.eg k/\fr.qd k=some l.length/\th ρ k g l base cap):∃ρ' S,ρ'.G=ρ.G/\ρ'.n=ρ.n/\(∀k g,tag=.loc k g->ρ'.A d (fr.eg d+1)=ρ.A k g)/\ρ'.ag d=fr.eg d+1/\WR T n B0 ρ' F S (grown fr d tag l []) H (a.put (some d) (.slice base l.length cap)) w:=by
 let f:Option (Nat×Nat×Nat):=match tag with|.loc k g=>ρ.A k g|_=>none
 let ρ':Maps:={ρ with A:=rH ρ.A d (fr.eg d+1) f,ag:=fO ρ.ag d (fr.eg d+1)}
 let S:Nat->nb:=match f with|some (b,_,_)=>fO R b (.arr d)|none=>R
 have u:tk F F ρ ρ':=by
  refine⟨.refl,λ_=>gO _,λ_ _ _=>rfl,λk=>?_,λk g hg=>?_⟩
  .show ρ.ag k<=fO ρ.ag d (fr.eg d+1) k;unfold fO
   split
   .rename_i U;subst U;rw[h.ag];omega
   .exact gO _
  .show rH ρ.A d (fr.eg d+1) f k g=ρ.A k g;unfold rH;rw[cO];rintro⟨rfl,rfl⟩;rw[h.ag] at hg;omega
 have i:∀b c sz,f=some (b,c,sz)->∃k g,tag=.loc k g/\g=fr.eg k/\fr.qd k=some l.length/\ρ.A k (fr.eg k)=some (b,c,sz)/\base=some ⟨b,0,none⟩/\cap=c/\∀x∈l,x.cells.length=sz:=by
  intro b c sz q;rcases K with⟨rfl,_⟩|⟨k,g,rfl,rfl,y,M⟩
  .exact absurd q (by simp[f])
  .refine⟨k,_,rfl,rfl,y,q,?_⟩;unfold th at M;have W:ρ.A k (fr.eg k)=some (b,c,sz):=q;rw[W] at M;exact M
 have B:∀I,(∀k,R I≠ .arr k)->S I=R I:=by
  intro I X;show(match f with|some (b,_,_)=>fO R b (.arr d)|none=>R) I=R I;cases q:f with
  |none=>rfl|some p=>
   obtain⟨b,c,sz⟩:=p;obtain⟨k,g,_,_,y,r,_⟩:=i b c sz q;have J:=(h.tok k _ y b c sz r).2.1;simp only[fO];rw[cO];rintro rfl;exact X k J
 have N:th ρ' d (fr.eg d+1) l base cap:=by grind[th,rH]
 refine⟨ρ',S,rfl,rfl,?_,by show fO ρ.ag d (fr.eg d+1) d=_;simp[fO],⟨⟨h.g.Cp,h.g.jU,h.g.inj,h.g.gF,h.g.fresh,h.g.xX,h.g.row⟩,by rw[Cz];exact h.size,by rw[put_defers];exact h.defers,?_,h.hn,h.lg,?_,?_,?_,?_,?_,?_,h.qi⟩⟩
 .rintro k g rfl;show rH ρ.A d (fr.eg d+1) f d (fr.eg d+1)=ρ.A k g;simp[rH,f]
 .have h0:=(h.env.grow u).put (d:=some d) (by intro C he;injection he with he;subst he;rw[h.size];exact hd) (x:=.slice (.loc d (fr.eg d+1)) l) (v:=.slice base l.length cap)
   (.cell (.loc (hp.grow u.g) (by show _<=fO ρ.ag d (fr.eg d+1) d;simp[fO]) N))
  simp only[grown,uF];exact h0
 .intro k;show fO ρ.ag d (fr.eg d+1) k=fO fr.eg d (fr.eg d+1) k;unfold fO
  split
  .rfl
  .exact h.ag k
 .intro C cs Y;obtain⟨h1,h2,h3,vs,ty,h4,h5⟩:=h.box C cs Y;exact⟨h1,by rw[B _ (by intro k;show R (ρ.L C (fr.gen C))≠_;rw[h2];simp)];exact h2,h3,vs,ty,h4,h5.mono λ_ _ _ h=>h.grow u⟩
 .intro k m s b c sz q;simp only[grown,fO] at s
  by_cases t:k=d
  .subst t;simp only[if_true,wC,HA,uV] at s;subst s
   have O:(grown fr k tag l []).eg k=fr.eg k+1:=by simp[grown,fO]
   rw[O] at q
   have V:ρ'.A k (fr.eg k+1)=f:=by show rH ρ.A k (fr.eg k+1) f k (fr.eg k+1)=f;simp[rH]
   rw[V] at q;obtain⟨k2,g2,_,_,y,r,ao,aq,ar⟩:=i b c sz q;obtain⟨O,V,Z,ad,P,e5⟩:=h.tok k2 _ y b c sz r;refine⟨O,?_,Z,ad,P,e5⟩;show(match f with|some (b,_,_)=>fO R b (.arr k)|none=>R) b=.arr k;rw[q];simp[fO]
  .simp only[cO t] at s
   have O:(grown fr d tag l []).eg k=fr.eg k:=by simp[grown,fO,t]
   rw[O] at q
   have V:ρ'.A k (fr.eg k)=ρ.A k (fr.eg k):=by show rH ρ.A d (fr.eg d+1) f k (fr.eg k)=_;simp[rH,t]
   rw[V] at q
   have Q:fr.qd k=some m/\∀k2 g2,tag=.loc k2 g2->k≠k2:=by
    unfold tv at s
    split at s
    .rename_i k2 g2;simp only[fO] at s
     split at s
     .cases s
     .rename_i ae;refine⟨s,λk3 g3 he=>?_⟩;injection he with af aw;subst af;exact ae
    .rename_i ah;exact⟨s,λk3 g3 he=>absurd he (ah k3 g3)⟩
   obtain⟨Z,P,e5,ai,e6,e7⟩:=h.tok k m Q.1 b c sz q;refine⟨Z,?_,e5,ai,e6,e7⟩;show(match f with|some (b,_,_)=>fO R b (.arr d)|none=>R) b=.arr k;cases ak:f with
   |none=>exact P|some p=>
    obtain⟨b3,c3,D⟩:=p;obtain⟨k2,g2,an,_,y,r,_⟩:=i b3 c3 D ak;have J:=(h.tok k2 _ y b3 c3 D r).2.1;simp only[fO];rw[cO]
    .exact P
    .rintro rfl;rw[P] at J;injection J with J;exact Q.2 k2 g2 an J
 .intro b j v hf;intro C;have U:=h.qF b j v hf C;show(match f with|some (b,_,_)=>fO R b (.arr d)|none=>R) b≠ .box C;cases q:f with
  |none=>exact U|some p=>
   obtain⟨b3,c3,D⟩:=p;simp only[fO]
   split
   .simp
   .exact U
 .intro o M;have:=h.na o M;rw[B _ (by intro k;show R (ρ.G o)≠_;rw[this];simp)];exact this
 .intro b hb;have:=h.k4 b hb;rw[B b (by rw[this];simp)];exact this
end
end Go.kC
namespace Go.kC
open Go
theorem KK{α:Type}(f:Nat->α)(i:Nat)(x y:α):fO (fO f i x) i y=fO f i y:=by grind[fO]
theorem zb{α:Type}(f:Nat->α)(i j:Nat)(x:α)(h:j≠i):fO f i x j=f j:=by simp[fO,h]
def vN{a:Array Value}(h:∀u∈a.toList,u.oneCell'=true)(b:0<a.size)(k:Nat):∀u∈(Builtin.zeroCells a k).toList,u.oneCell'=true:=by
 intro u hu;unfold Builtin.zeroCells at hu;simp only[NP,nw] at hu;obtain⟨i,_,rfl⟩:=hu;have c:i%a.size<a.size:=Xs _ b
 grind
def Nw{P:Program}{t e:TypeId}{sz:Nat}(h:mK P t=some (e,sz)){i:TypeInfo}{z:Value}(hi:P.info? e=some i)(a:i.zero=some z):∀u∈z.cells.toList,u.oneCell'=true:=by grind[mK]
section
variable{P:Program} {T:dt} {n B0:Nat} {ρ:Maps} {F:jo} {R:Nat->nb} {fr:Fr} {H:cZ} {a:Act} {w:World}
def WR.extend(h:WR T n B0 ρ F R fr H a w){d p q b c sz:Nat}{news:List Value}(ht:fr.qd d=some p)(hA:ρ.A d (fr.eg d)=some (b,c,sz))(hq:news.length=q*sz)(L:p+q<=c)(C:∀u∈news,u.oneCell'=true)
  {cur:Array Value} {ty:TypeId} (S:w.heap[b]?=some (.cells cur ty (0,0))):∃F',tk F F' ρ ρ/\(∀f j,f≠b->F' f j=F f j)/\(∀(j:Nat) (v:Value),news[j]?=some v->F' b (p*sz+j)=some v)/\WR T n B0 ρ F' R {fr with qd:=fO fr.qd d (some (p+q))} H a (w.setRow b (cur.toList.take (p*sz)++news++cur.toList.drop (p*sz+news.length)).toArray):=by
 obtain⟨h1,h2,h3,an,⟨vs,s,U,h5,M⟩,h6⟩:=h.tok d p ht b c sz hA;rw[S] at U;injection U with U;injection U with e1 e2;subst e1;subst e2;have V:(p+q)*sz<=c*sz:=GM _ L;rw[AO] at V
 have W:p*sz<=cur.toList.length:=acz
 let F':jo:=λf j=>if f=b/\p*sz<=j/\j<p*sz+news.length then news[j-p*sz]?else F f j
 have hold:∀f j v,F f j=some v->F' f j=some v:=by
  intro f j v r;show(if f=b/\p*sz<=j/\j<p*sz+news.length then news[j-p*sz]?else F f j)=some v;rw[cO]
  .exact r
  .rintro⟨rfl,K,_⟩;rw[h6 j K] at r;cases r
 have i:∀f j,f≠b->F' f j=F f j:=by
  intro f j t;show(if f=b/\p*sz<=j/\j<p*sz+news.length then news[j-p*sz]?else F f j)=F f j;rw[cO (λh=>t h.1)]
 have N:∀(j:Nat) (v:Value),news[j]?=some v->F' b (p*sz+j)=some v:=by
  intro j v hv;have K:=(mI.1 hv).1;show(if b=b/\p*sz<=p*sz+j/\p*sz+j<p*sz+news.length then news[p*sz+j-p*sz]?else F b (p*sz+j))=some v;rw[cS ⟨rfl,VW,VW⟩,Nat.add_sub_cancel_left];exact hv
 have D:∀G n,Grow F F' G G n n:=λG n=>⟨hold,gO _,λ_ _=>rfl⟩;have I:tk F F' ρ ρ:=⟨D _ _,λ_=>gO _,λ_ _ _=>rfl,λ_=>gO _,λ_ _ _=>rfl⟩
 have y:∀f,R f≠ .arr d->f≠b:=by rintro f l rfl;exact l h2
 have O:Ft (cur.toList.take (p*sz)++news++cur.toList.drop (p*sz+news.length)).toArray:=by
  intro u hu;simp only[rA] at hu;rcases hu with(hu|hu)|hu
  .exact M u (AF hu)
  .exact C u hu
  .exact M u (Hc hu)
 have B:=setRow_heap w b cur (cur.toList.take (p*sz)++news++cur.toList.drop (p*sz+news.length)).toArray ty (0,0) S;refine⟨F',I,i,N,⟨⟨?_,?_,h.g.inj,?_,?_,λg x hx=>(h.g.xX g x hx).grow (D _ _),?_⟩,h.size,h.defers,h.env.grow I,h.hn,h.lg,h.ag,?_,?_,?_,h.na,?_,by rw[size_setRow];exact h.qi⟩⟩
 .intro f j v r
  by_cases l:f=b
  .subst l;rw[cell_of_row _ f j _ ty (0,0) B];simp only[aek];change (if f=f/\p*sz<=j/\j<p*sz+news.length then news[j-p*sz]?else F f j)=some v at r
   split at r
   .rename_i hc;rw[s6,xT (by rw[xS];omega),xS,T1 W,tz VW];exact r
   .rename_i hc
    have K:j<p*sz:=by
     rcases sH j (p*sz)with h'|h'
     .exact h'
     .rw[h6 j h'] at r;cases r
    have:=h.g.Cp f j v r;rw[cell_of_row w f j cur ty (0,0) S] at this;rw[s6,tz (by rw[xS];omega),Nu,cS K];simpa using this
  .rw[cell_setRow_other _ _ _ _ _ l];rw[i _ _ l] at r;exact h.g.Cp f j v r
 .intro o cs P;obtain⟨X,g1,g2⟩:=h.g.jU o cs P;refine⟨X,?_,g2.grow (D _ _)⟩;rw[setRow_other]
  .exact g1
  .exact y _ (by rw[h.na o (mI.1 P).1];simp)
 .intro o j P Y;rw[i]
  .exact h.g.gF o j P Y
  .exact y _ (by rw[h.na o P];simp)
 .intro f j l;rw[size_setRow] at l;rw[i]
  .exact h.g.fresh f j l
  .rintro rfl;have:=oz S;omega
 .intro hT f j v r
  by_cases l:f=b
  .subst l;exact⟨_,ty,_,B,.inl rfl,O⟩
  .rw[i _ _ l] at r;obtain⟨Z,ad,ae,g1,g2⟩:=h.g.row hT f j v r;exact⟨Z,ad,ae,by rw[setRow_other _ _ _ _ l];exact g1,g2⟩
 .intro d' cs af;obtain⟨g1,g2,g3,vs',s,g4,g5⟩:=h.box d' cs af;refine⟨g1,g2,g3,vs',s,?_,g5.mono λ_ _ _ h=>h.grow I⟩;rw[setRow_other]
  .exact g4
  .exact y _ (by rw[g2];simp)
 .intro k m Q f c' ah ai;simp only[fO] at Q
  by_cases J:k=d
  .subst J;simp only[if_true,uV] at Q;subst Q
   grind
  .simp only[cO J] at Q;obtain⟨g1,g2,g3,ak,⟨vs',s,g4,g5⟩,g6⟩:=h.tok k m Q f c' ah ai;have t:f≠b:=y _ (by rw[g2];simp[J]);refine⟨g1,g2,g3,ak,⟨vs',s,by rw[setRow_other _ _ _ _ t];exact g4,g5⟩,λj K=>?_⟩;rw[i _ _ t];exact g6 j K
 .intro f j v r
  by_cases l:f=b
  .subst l;rw[h2];simp
  .rw[i _ _ l] at r;exact h.qF f j v r
 .intro f l;rw[size_setRow] at l;exact h.k4 f l
def WR.Wm(h:WR T n B0 ρ F R fr H a w){b:Nat}{vs:Array Value}{ty:TypeId}{us:List Value}{c sz:Nat}{tag:Tag}{l m:List AV}{d:Nat}(hd:d<n)(hb:B0<=b)(q:R b=.free)
  (hF:∀j,F b j=none) (X:w.heap[b]?=some (.cells vs ty (0,0))) (B:Ft vs) (Y:vs.size=c*sz) (Z:0<l.length+m.length) (hp:l.length+m.length<=c) (hc:c<=maxLen) (ak:us.length=(l.length+m.length)*sz)
  (K:∀(j:Nat) (v:Value),us[j]?=some v->vs[j]?=some v) (t:fG F ρ.G ρ.n ((l++m).flatMap AV.cells) us) (M:∀x∈(l++m).flatMap AV.cells,x.fJ=true) (N:∀x∈l++m,x.cells.length=sz):∃ρ' O,ρ'.G=ρ.G/\WR T n B0 ρ' (im F b us.length us) O (grown fr d tag l m) H (a.put (some d) (.slice (some ⟨b,0,none⟩) (l.length+m.length) c)) w:=by
 obtain⟨C,P⟩:=h.freeze (k:=us.length) (us:=us) q hF X B (λj v _ hv=>K j v hv)
 let ρ':Maps:={ρ with A:=rH ρ.A d (fr.eg d+1) (some (b,c,sz)),ag:=fO ρ.ag d (fr.eg d+1)}
 let O:Nat->nb:=fO R b (.arr d)
 have u:tk F (im F b us.length us) ρ ρ':=by
  refine⟨C.g,λ_=>gO _,λ_ _ _=>rfl,λk=>?_,λk g hg=>?_⟩
  .show ρ.ag k<=fO ρ.ag d (fr.eg d+1) k;unfold fO
   split
   .rename_i h';subst h';rw[h.ag];omega
   .exact gO _
  .show rH ρ.A d (fr.eg d+1) (some (b,c,sz)) k g=ρ.A k g;unfold rH;rw[cO];rintro⟨rfl,rfl⟩;rw[h.ag] at hg;omega
 have D:tk (im F b us.length us) (im F b us.length us) ρ ρ':=⟨.refl,u.lg,u.L,u.ag,u.A⟩
 have r:∀f,R f≠ .free->O f=R f:=by
  intro f i;show fO R b (.arr d) f=R f;unfold fO;rw[cO];rintro rfl;exact i q
 have an:∀f,R f≠ .free->f≠b:=by rintro f i rfl;exact i q
 refine⟨ρ',O,rfl,⟨P.g,by rw[Cz];exact h.size,by rw[put_defers];exact h.defers,?_,h.hn,h.lg,?_,?_,?_,?_,?_,?_,h.qi⟩⟩
 .have Q:fv (im F b us.length us) ρ' (.slice (.loc d (fr.eg d+1)) (l++m)) (.slice (some ⟨b,0,none⟩) (l.length+m.length) c):=by
   have hlen:(l++m).length=l.length+m.length:=rF
   have S:=fE.slice (F:=im F b us.length us) (G:=ρ'.G) (n:=ρ'.n) (tag:=.iw) (l:=l++m) (b:=b) (o:=0) (base:=some ⟨b,0,none⟩) (cap:=c) (sz:=sz)
    (t.grow C.g) (u9 F b us) (λ_=>rfl) N M VW hc (.inl rfl)
   rw[hlen] at S;rw[<-hlen];refine .cell (.loc (by rw[hlen];exact S) (by show _<=fO ρ.ag d (fr.eg d+1) d;simp[fO]) ?_);unfold th
   have e:ρ'.A d (fr.eg d+1)=some (b,c,sz):=by show rH ρ.A d (fr.eg d+1) (some (b,c,sz)) d (fr.eg d+1)=_;simp[rH]
   rw[e];exact⟨rfl,rfl,N⟩
  have h1:=(P.env.grow D).put (d:=some d) (by intro U he;injection he with he;subst he;rw[h.size];exact hd) Q;exact h1
 .intro k;show fO ρ.ag d (fr.eg d+1) k=fO fr.eg d (fr.eg d+1) k;unfold fO
  split
  .rfl
  .exact h.ag k
 .intro U cs ad;obtain⟨h1,h2,h3,vs',ae,h4,h5⟩:=P.box U cs ad;exact⟨h1,by rw[r _ (by show R (ρ.L U (fr.gen U))≠_;rw[h2];simp)];exact h2,h3,vs',ae,h4,h5.mono λ_ _ _ h=>h.grow D⟩
 .intro k m' s f c' af I;simp only[grown,fO] at s
  by_cases y:k=d
  .subst y;simp only[if_true,uV] at s;subst s
   have V:(grown fr k tag l m).eg k=fr.eg k+1:=by simp[grown,fO]
   rw[V] at I
   have J:ρ'.A k (fr.eg k+1)=some (b,c,sz):=by show rH ρ.A k (fr.eg k+1) (some (b,c,sz)) k (fr.eg k+1)=_;simp[rH]
   rw[J] at I;injection I with I;injection I with V J;injection J with J e3;subst V;subst J;subst e3;refine⟨hb,by show fO R b (.arr k) b=.arr k;simp[fO],⟨Z,hp⟩,hc,⟨vs,ty,X,Y,B⟩,λj hj=>?_⟩;show(if b=b/\j<us.length then us[j]?else F b j)=none;rw[cO VW];exact hF j
  .simp only[cO y] at s
   have V:(grown fr d tag l m).eg k=fr.eg k:=by simp[grown,fO,y]
   rw[V] at I
   have J:ρ'.A k (fr.eg k)=ρ.A k (fr.eg k):=by show rH ρ.A d (fr.eg d+1) _ k (fr.eg k)=_;simp[rH,y]
   rw[J] at I
   have ah:fr.qd k=some m':=by
    unfold tv at s
    split at s
    .simp only[fO] at s
     split at s
     .cases s
     .exact s
    .exact s
   obtain⟨e3,e4,e5,ai,e6,e7⟩:=P.tok k m' ah f c' af I;exact⟨e3,by rw[r _ (by rw[e4];simp)];exact e4,e5,ai,e6,e7⟩
 .intro f j v hf
  by_cases i:f=b
  .subst i;intro U;show fO R f (.arr d) f≠_;simp[fO]
  .have e:O f=R f:=by show fO R b (.arr d) f=R f;simp[fO,i]
   rw[e];exact P.qF f j v hf
 .intro o ho;have:=h.na o ho;rw[r _ (by show R (ρ.G o)≠_;rw[this];simp)];exact this
 .intro f i
  have W:f≠b:=by rintro rfl;have:=oz X;omega
  show fO R b (.arr d) f=.free;simp only[fO,cO W];exact h.k4 f i
end
section
variable{P:Program} {T:dt} {n:Nat} {G0:Nat->Nat} {F0:jo} {n0:Nat} {w0:World} {fr:Fr} {H:cZ} {a:Act} {w:World}
def Dd(w:World){t e:TypeId}{sz:Nat}(o:mK P t=some (e,sz))(ty:TypeId)(base:Option Addr)(a d:Nat)(f:List Value)(holds:f.length=a*sz)
  (D:base=none->a=0/\d=0) (F:∀l,base=some l->∀j v,f[j]?=some v->w.cell? (l.add j)=some v)
  (l:Addr) (m c:Nat) (news:List Value) (r:news.length=m*sz) (hn:∀j v,news[j]?=some v->w.cell? (l.add j)=some v) (n:d<a+m) (q:a+m<=jn):∃cap rest,a+m<=cap/\cap<=maxLen/\(∀u∈rest,u.oneCell'=true)/\(f++news++rest).length=cap*sz/\(Builtin.append_ #[t,t] ty #[.slice base a d,.slice (some l) m c]).run P w=.ok (.slice (some ⟨w.heap.size,0,none⟩) (a+m) cap) (w.drew.alloc (.cells (f++news++rest).toArray e)):=by
 obtain⟨i,z,hu,hi,s,x,y,A,C⟩:=mi o;subst y;have k:a+m<=549755813888:=q
 have h:(a+m)*i.bytes<=140737488355328:=by
  have:=Gf k A;omega
 have xI:a+m<=maxLen:=by simp only[maxLen];omega
 have B:=grownCap_ge w (a+m) d e;have hle:=grownCap_le_maxLen w (a+m) d e xI;refine⟨grownCap w (a+m) d e,(Builtin.zeroCells z.cells (grownCap w (a+m) d e-(a+m))).toList,B,hle,vN (Nw o hi s) VW _,?_,?_⟩
 .simp only[rF,V6,size_zeroCells,x,holds,r,<-AO]
  congr 1
  omega
 .have G:(f++news++(Builtin.zeroCells z.cells (grownCap w (a+m) d e-(a+m))).toList).toArray=f.toArray++news.toArray++Builtin.zeroCells z.cells (grownCap w (a+m) d e-(a+m)):=by
   simp
  rw[G];cases base with
  |some b=>
   exact run_append_grow w t ty e i z hu hi s b a d f holds (F b rfl) l m c news r hn n VW (growslice_fits n h)
  |none=>
   obtain⟨rfl,rfl⟩:=D rfl;have:f=[]:=z8 (by simpa using holds);subst this;simp only[tH] at n h k|-;have:=run_append_nil (P:=P) w t ty e i z hu hi s l m c news r hn VW VW VW;simpa using this
structure PU (P:Program) (w:World) (t u e:TypeId) (sz k:Nat) (x:Value) (news:List Value) (ty:TypeId):Prop where
 none:k=0->∀(base:Option Addr) (len cap:Nat),len<=cap->(Builtin.append_ #[t,u] ty #[.slice base len cap,x]).run P w=.ok (.slice base len cap) w
 room:0<k->∀(g sLen sCap:Nat) (cur:Array Value) (e':TypeId),w.heap[g]?=some (.cells cur e' (0,0))->sLen+k<=sCap->sLen*sz+news.length<=cur.size->(Builtin.append_ #[t,u] ty #[.slice (some ⟨g,0,.none⟩) sLen sCap,x]).run P w=.ok (.slice (some ⟨g,0,.none⟩) (sLen+k) sCap) (w.setRow g (cur.toList.take (sLen*sz)++news++cur.toList.drop (sLen*sz+news.length)).toArray)
 grow:0<k->∀(base:Option Addr) (sLen sCap:Nat) (olds:List Value),olds.length=sLen*sz->(base=.none->sLen=0/\sCap=0)->(∀ad,base=some ad->∀j v,olds[j]?=some v->w.cell? (ad.add j)=some v)->sCap<sLen+k->sLen+k<=jn->∃cap rest,sLen+k<=cap/\cap<=maxLen/\(∀u∈rest,u.oneCell'=true)/\(olds++news++rest).length=cap*sz/\(Builtin.append_ #[t,u] ty #[.slice base sLen sCap,x]).run P w=.ok (.slice (some ⟨w.heap.size,0,.none⟩) (sLen+k) cap) (w.drew.alloc (.cells (olds++news++rest).toArray e))
def DQ{ρ:Maps}{F:jo}{R:Nat->nb}(h:WR T n w0.heap.size ρ F R fr H a w)(hx:Ext w0.heap.size G0 F0 n0 w0 ρ.G F H.length w){d:Nat}{t u e ty:TypeId}{sz:Nat}{K:Fr->cZ->Prop}{tag:Tag}{l m:List AV}{sv xv:Value}{B:List Value}
  (aG:mK P t=some (e,sz)) (aH:fv F ρ (.slice tag l) sv) (aI:kA sz l=true) (src:PU P w t u e sz m.length xv B ty) (r:fG F ρ.G ρ.n (m.flatMap AV.cells) B) (s:∀y∈m.flatMap AV.cells,y.fJ=true)
  (N:∀y∈m,y.cells.length=sz) (aq:l.length+m.length<=jn) (O:d<n)
  (hK:if ot fr tag l then K (grown fr d tag l m) H else m=[]/\K (fr.put (some d) (.slice .iw l)) H):∃v w' fr' H',(Builtin.append_ #[t,u] ty #[sv,xv]).run P w=.ok v w'/\K fr' H'/\SR T n G0 F0 n0 w0 fr' H' (a.put (some d) v) w':=by
 obtain⟨base,cap,b,o,aW,vs,aJ,f,ai,ar⟩:=mz aH;rw[aJ];obtain⟨i,z,hu,hi,hz,aX,aY,aZ,aU⟩:=mi aG;have C:=qf aI f.sz;have D:fE F ρ.G ρ.n (.slice .iw l) (.slice base l.length cap):=.slice f.cells f.has f.base C f.r7 f.zO f.xI (.inl rfl)
 split at hK
 .rename_i L
  have Q:tag=.full/\cap=l.length\/∃k g,tag=.loc k g/\g=fr.eg k/\fr.qd k=some l.length/\th ρ k g l base cap:=by
   unfold ot at L
   split at L
   .cases L
   .exact .inl ⟨rfl,ai rfl⟩
   .rename_i k g;simp only[fI,abO] at L;exact .inr ⟨k,g,rfl,L.1,L.2,(ar k g rfl).2⟩
  by_cases hm:m=[]
  .subst hm;obtain⟨ρ',R',hG,_,_,_,hw⟩:=h.rename O D Q;refine⟨_,_,_,_,src.none rfl _ _ _ f.zO,hK,ρ',F,R',?_,by rw[hG];exact hx⟩;exact hw
  .have S:B.length=m.length*sz:=by rw[<-r.length,ni N]
   have J:vs.length=l.length*sz:=by rw[<-f.cells.length,ni C]
   have U:0<m.length:=R0.2 hm
   by_cases I:l.length+m.length<=cap
   .--in place
    rcases Q with⟨rfl,hc⟩|⟨k,g,rfl,hg,ht,Z⟩
    .omega
    .have M:=Z;unfold th at M;cases X:ρ.A k g with
     |none=>rw[X] at M;simp only at M;omega
     |some p=>
      obtain⟨b3,c3,x⟩:=p;rw[X] at M;simp only at M;obtain⟨rfl,rfl,aK⟩:=M;rw[hg] at X;obtain⟨t1,t2,t3,a1,⟨cur,aL,t4,t5,a6⟩,t6⟩:=h.tok k _ ht b3 cap x X;have ak:∀u∈B,u.oneCell'=true:=iO (r.sW.mono λ_ _ _ h=>iF.p h) s
      have ae:l≠[]:=by rintro rfl;exact absurd t3.1 aaL
      have aw:x=sz:=by
       cases l with
       |nil=>exact absurd rfl ae|cons y ys=>rw[<-aK y aaL,C y aaL]
      subst aw;obtain⟨ρ',R',hG,ax,ay,az,hw⟩:=h.rename O D (tag:=.loc k g) (.inr ⟨k,g,rfl,hg,ht,Z⟩)
      have an:ρ'.A d ((grown fr d (.loc k g) l []).eg d)=some (b3,cap,x):=by
       have e:(grown fr d (.loc k g) l []).eg d=fr.eg d+1:=by simp[grown,fO]
       rw[e,ay k g rfl,hg];exact X
      have aA:(grown fr d (.loc k g) l []).qd d=some l.length:=by simp[grown,fO]
      obtain⟨F',aB,Y,aC,aM⟩:=hw.extend aA an S I ak t4
      have aN:b=b3/\o=0:=by
       have:=f.base ae;injection this with this;injection this with e1 e2;exact⟨e1.symm,e2.symm⟩
      obtain⟨rfl,rfl⟩:=aN
      have V:=src.room U b l.length cap cur aL t4 I (by
       rw[S,<-AO,t5];exact GM _ I)
      have aD:fv F' ρ' (.slice (.loc d (fr.eg d+1)) (l++m)) (.slice (some ⟨b,0,none⟩) (l.length+m.length) cap):=by
       have hlen:(l++m).length=l.length+m.length:=rF
       have aE:F'.has b 0 (vs++B):=by
        intro q v W;rcases sH q vs.length with hq|hq
        .rw[tz hq] at W;exact aB.g.mF _ _ _ (f.has q v W)
        .rw[xT hq] at W;have:=aC _ v W;rw[J] at hq this;rw[show l.length*x+(q-l.length*x)=0+q by omega] at this;exact this
       have af:∀y∈l++m,y.cells.length=x:=by
        intro y hy;rcases rA.1 hy with hy|hy
        .exact C y hy
        .exact N y hy
       have aO:=fE.slice (F:=F') (G:=ρ'.G) (n:=ρ'.n) (tag:=.iw) (l:=l++m) (b:=b) (o:=0) (base:=some ⟨b,0,none⟩) (cap:=cap) (sz:=x) (vs:=vs++B)
        (by
         rw[Up,hG,ax];have aF:=aB.g;rw[hG,ax] at aF
         exact(f.cells.append r).grow aF) aE (λ_=>rfl) af (by
         intro y hy;rw[Up] at hy;rcases rA.1 hy with hy|hy
         .exact f.r7 y hy
         .exact s y hy) VW f.xI (.inl rfl)
       rw[<-hlen];refine .cell (.loc aO (by rw[az];exact gO _) ?_);unfold th
       have e:ρ'.A d (fr.eg d+1)=some (b,cap,x):=by rw[ay k g rfl,hg];exact X
       rw[e];exact⟨rfl,rfl,af⟩
      have ah:=aM.put (d:=some d) (λ_ hh=>by cases hh;exact O) aD;refine⟨_,_,_,_,V,hK,ρ',F',R',?_,?_⟩
      .have e1:({(grown fr d (.loc k g) l [])with qd:=fO (grown fr d (.loc k g) l []).qd d (some (l.length+m.length))}:Fr).put (some d) (.slice (.loc d (fr.eg d+1)) (l++m))=grown fr d (.loc k g) l m:=by
        simp only[grown,Fr.put,KK]
       have e2:(a.put (some d) (.slice (some ⟨b,0,none⟩) l.length cap)).put (some d) (.slice (some ⟨b,0,none⟩) (l.length+m.length) cap)=a.put (some d) (.slice (some ⟨b,0,none⟩) (l.length+m.length) cap):=by
        simp[Act.put]
       rw[e1,e2] at ah;exact ah
      .rw[hG];exact(hx.setRow (.inl t1) _).freeze λb' j aP=>Y b' j VW
   .--a new row
    have aQ:base=none->l.length=0/\cap=0:=by
     rintro rfl
     have ao:l=[]:=by
      rcases abl l with h'|⟨_,_,h'⟩
      .exact h'
      .have:=f.base (by rw[h'];simp);cases this
     subst ao;refine⟨rfl,?_⟩;rcases Q with⟨_,hc⟩|⟨k,g,rfl,hg,ht,Z⟩
     .simpa using hc
     .unfold th at Z;cases X:ρ.A k g with
      |none=>rw[X] at Z;simpa using Z
      |some p=>
       obtain⟨b3,c3,x⟩:=p;rw[X] at Z;cases Z.1
    have aR:∀ad,base=some ad->∀(j:Nat) (v:Value),vs[j]?=some v->w.cell? (ad.add j)=some v:=by
     intro ad aS j v W
     have ao:l≠[]:=by
      rintro rfl;have:vs=[]:=z8 (by rw[J];simp);subst this;simp at W
     have:=f.base ao;rw[aS] at this;injection this with this;subst this;rw[Addr.add_lit];exact h.g.Cp b _ v (f.has j v W)
    obtain⟨c',rest,r1,r2,r0,r3,V⟩:=src.grow U base l.length cap vs J aQ aR VW aq;have aT:=h.drew.alloc (.cells (vs++B++rest).toArray e);have aV:w.drew.heap.size=w.heap.size:=rfl
    obtain⟨ρ',R',hG,hw⟩:=aT.Wm (b:=w.heap.size) (us:=vs++B) (c:=c') (sz:=sz) (tag:=tag) (l:=l) (m:=m) O h.qi (h.k4 _ (gO _)) (λj=>h.g.fresh _ j (gO _))
     (heap_alloc_new w.drew _) (by
      intro u hu;simp only[rA] at hu;rcases hu with(hu|hu)|hu
      .exact iO (f.cells.sW.mono λ_ _ _ h=>iF.p h) f.r7 u hu
      .exact iO (r.sW.mono λ_ _ _ h=>iF.p h) s u hu
      .exact r0 u hu) (by simpa using r3) VW r1 r2 (by rw[rF,J,S,AO]) (by
      intro j v W;have hj:=(mI.1 W).1;simp only[aek];rw[tz hj]
      exact W) (by rw[Up];exact f.cells.append r) (by
      intro y hy;rw[Up] at hy;rcases rA.1 hy with hy|hy
      .exact f.r7 y hy
      .exact s y hy) (by
      intro y hy;rcases rA.1 hy with hy|hy
      .exact C y hy
      .exact N y hy)
    refine⟨_,_,_,_,V,hK,ρ',_,R',hw,?_⟩;rw[hG];exact((hx.drew.alloc h.qi _).freeze λb' j aP=>la (by have:=h.qi;omega))
 .obtain⟨rfl,hK⟩:=hK;refine⟨_,_,_,_,src.none rfl _ _ _ f.zO,hK,ρ,F,R,?_,hx⟩;exact h.put (λ_ hh=>by cases hh;exact O) (.p D)
def Lp{t e:TypeId}{sz:Nat}(f:mK P t=some (e,sz))(ty:TypeId){base:Option Addr}{m cap b o:Nat}{news:List Value}(A:0<m->base=some ⟨b,o,none⟩)(B:news.length=m*sz)
  (hn:∀j v,news[j]?=some v->w.cell? ((⟨b,o,none⟩:Addr).add j)=some v) (J:∀u∈news,u.oneCell'=true):PU P w t t e sz m (.slice base m cap) news ty where
 none C a len h D:=Em w f ty a len h D _ ⟨base,cap,by rw[C]⟩
 room s g c d cur K hg n x:=by
  obtain⟨i,z,hu,hi,L,F,G,H,y⟩:=mi f
  grind[wk]
 grow s a c d k holds q I r l:=by
  rw[A s];exact Dd w f ty a c d k holds q I ⟨b,o,.none⟩ m cap news B hn r l
def Kg{ρ:Maps}{F:jo}{R:Nat->nb}(h:WR T n w0.heap.size ρ F R fr H a w)(U:Ext w0.heap.size G0 F0 n0 w0 ρ.G F H.length w){c:Call}{dst:Option Nat}{ty:TypeId}{K:Fr->cZ->Prop}
  (k:l9 P T c dst K fr H) (V:∀d,dst=some d->d<n) (r:∀x∈c.args.toList,iv x=true):∃v w' fr' H',(Builtin.append_ c.argTypes ty (c.args.map a.eval)).run P w=.ok v w'/\K fr' H'/\SR T n G0 F0 n0 w0 fr' H' (a.put dst v) w':=by
 unfold l9 at k
 split at k
 .rename_i d s x t W i u;have D:=V d rfl;have X:c.argTypes=#[t,W]:=Dh.1 (by rw[u]);have Y:c.args.map a.eval=#[a.eval s,a.eval x]:=Dh.1 (by rw[NP,i];rfl);rw[X,Y];have y:=fA h.env h.gv s (r s (by rw[i];simp));have A:=fA h.env h.gv x (r x (by rw[i];simp))
  split at k
  .rename_i e sz tag l O m B hs I;obtain⟨rfl,J,L,C,k⟩:=k;rw[hs] at y;rw[I] at A;obtain⟨M,Q,S,o2,Z,ad,N,f,_,_⟩:=mz A;have q:=qf L f.sz;rw[N]
   exact DQ h U B y J (Lp B ty (b:=S) (o:=o2) (λhp=>f.base (R0.1 hp)) (by rw[<-f.cells.length,ni q]) (λj v hv=>by
    rw[Addr.add_lit]
    exact h.g.Cp S _ v (f.has j v hv)) (iO (f.cells.sW.mono λ_ _ _ h=>iF.p h) f.r7)) f.cells f.r7 q C D k
  .exact k.elim
 .exact k.elim
def oq(s:ByteArray):List AV:=s.data.toList.map λb=>AV.sc (.int .u8 (b.toNat:Int))
def BF(P:Program)(T:dt)(c:Call)(dst:Option Nat)(K:Fr->cZ->Prop)(fr:Fr)(H:cZ):Prop:=
 match dst,c.args.toList,c.argTypes.toList with
 |some d,[s,x],[t,a]=>
  match mK P t,P.underlying a,ev T fr s,ev T fr x with
  |some (_,sz),some .string,.slice tag l,.sc (.string y)=>
   sz=1/\kA 1 l=true/\l.length+y.size<=jn/\(if ot fr tag l then K (grown fr d tag l (oq y)) H else oq y=[]/\K (fr.put (some d) (.slice .iw l)) H)
  |_,_,_,_=>False
 |_,_,_=>False
def O1{t u e:TypeId}(j:mK P t=some (e,1))(d:P.underlying u=some .string)(ty:TypeId)(s:ByteArray):PU P w t u e 1 s.size (.string s) (Lib.strCells s) ty where
 none v base len cap F:=by
  obtain⟨i,z,hu,hi,x,n,k,o,l⟩:=mi j;have y:=Lib.run_firstCells_string (P:=P) w i.size s;have hn:Lib.strCells s=[]:=z8 (by rw[Lib.strCells_length];exact v);rw[v,hn] at y;cases base with
  |none=>simp[Builtin.append_,run_underlying hu,run_underlying d,sizeOf,typeInfo,hi,Builtin.lenOf,v,F,y]|some N=>simp[Builtin.append_,run_underlying hu,run_underlying d,sizeOf,typeInfo,hi,Builtin.lenOf,v,F,y,storeCells]
 room H g a c cur I hg q A:=by
  obtain⟨i,z,hu,hi,x,n,k,o,l⟩:=mi j;have y:=Lib.run_firstCells_string (P:=P) w 1 s;have B:=run_storeCells_at P g (a*1) I (Lib.strCells s) 0 cur w hg (by simpa using A) (Lib.strCells_oneCell s);simp only[HA,acf] at B;simp[Builtin.append_,run_underlying hu,run_underlying d,sizeOf,typeInfo,hi,k,Builtin.lenOf,q,y,Addr.add_lit,B]
 grow H base a c f holds J K C D:=by
  obtain⟨i,z,hu,hi,x,n,k,o,l⟩:=mi j;have r:a+s.size<=549755813888:=D
  have h:(a+s.size)*i.bytes<=140737488355328:=by
   have:=Gf r o;omega
  have xI:a+s.size<=maxLen:=by simp only[maxLen];omega
  refine⟨grownCap w (a+s.size) c e,(Builtin.zeroCells z.cells (grownCap w (a+s.size) c e-(a+s.size))).toList,grownCap_ge w (a+s.size) c e,grownCap_le_maxLen w (a+s.size) c e xI,vN (Nw j hi x) VW _,?_,?_⟩
  .have:=grownCap_ge w (a+s.size) c e;simp only[rF,V6,size_zeroCells,n,holds,Lib.strCells_length];omega
  .have L:(f++Lib.strCells s++(Builtin.zeroCells z.cells (grownCap w (a+s.size) c e-(a+s.size))).toList).toArray=f.toArray++(Lib.strCells s).toArray++Builtin.zeroCells z.cells (grownCap w (a+s.size) c e-(a+s.size)):=by
    apply Dh.1;simp
   rw[L];cases base with
   |some b=>exact Lib.run_append_grow_string w t u ty e i z hu d hi x b a c f (by rw[k];exact holds) (K b rfl) s C VW (growslice_fits C h)|none=>
    obtain⟨rfl,rfl⟩:=J rfl;have v:f=[]:=z8 (by simpa using holds);subst v;have G:=run_append_nil_string (P:=P) w t u ty e i z hu d hi x s VW VW (by rw[tH] at h;omega)
    have M:(s.data.map λb=>Value.int .u8 b.toNat)=(Lib.strCells s).toArray:=by
     apply Array.ext';simp[Lib.strCells]
    rw[M] at G;simpa using G
def Ag(s:ByteArray):(oq s).flatMap AV.cells=(Lib.strCells s).map AV.sc:=by
 unfold oq Lib.strCells
 induction s.data.toList with
 |nil=>rfl|cons b l ih=>simp only[CN,Fp,ih];rfl
def uh{F:jo}{G:Nat->Nat}{k:Nat}:∀(L:List Value),(∀v∈L,vK v=true)->fG F G k (L.map AV.sc) L
 |[],_=>.nil|v::L,h=>.cons (.sc (h v aaL)) (uh L λx a=>h x (by simp[a]))
def Ic{ρ:Maps}{F:jo}{R:Nat->nb}(h:WR T n w0.heap.size ρ F R fr H a w)(J:Ext w0.heap.size G0 F0 n0 w0 ρ.G F H.length w){c:Call}{dst:Option Nat}{ty:TypeId}{K:Fr->cZ->Prop}
  (i:BF P T c dst K fr H) (L:∀d,dst=some d->d<n) (j:∀x∈c.args.toList,iv x=true):∃v w' fr' H',(Builtin.append_ c.argTypes ty (c.args.map a.eval)).run P w=.ok v w'/\K fr' H'/\SR T n G0 F0 n0 w0 fr' H' (a.put dst v) w':=by
 unfold BF at i
 split at i
 .rename_i d s x t M f k;have C:=L d rfl;have N:c.argTypes=#[t,M]:=Dh.1 (by rw[k]);have O:c.args.map a.eval=#[a.eval s,a.eval x]:=Dh.1 (by rw[NP,f];rfl);rw[N,O];have o:=fA h.env h.gv s (j s (by rw[f];simp));have q:=fA h.env h.gv x (j x (by rw[f];simp))
  split at i
  .rename_i e sz tag l y r u hs D;obtain⟨rfl,I,A,i⟩:=i;rw[hs] at o;rw[D] at q;rw[e9 q]
   have hlen:(oq y).length=y.size:=by simp[oq]
   have Q:fG F ρ.G ρ.n ((oq y).flatMap AV.cells) (Lib.strCells y):=by
    rw[Ag];refine uh _ λv S=>?_;obtain⟨b,_,rfl⟩:=nw.1 S;rfl
   have U:∀c∈(oq y).flatMap AV.cells,c.fJ=true:=λc B=>by
    rw[Ag] at B;obtain⟨v,_,rfl⟩:=nw.1 B;rfl
   have c3:∀c∈oq y,c.cells.length=1:=λc B=>by
    obtain⟨b,_,rfl⟩:=nw.1 B;rfl
   exact DQ h J r o I (by rw[hlen];exact O1 r u ty y) Q U c3 (by rw[hlen];exact A) C i
  .exact i.elim
 .exact i.elim
end
end Go.kC
namespace Go.kC
open Go
def hO(P:Program)(t:TypeId):Option (List AV):=
 match zeroOf P t with
 |some z=>if xA z=true/\eo (ofValue z) then some (ofValue z).cells else none|none=>none
theorem Jc{P:Program}{t:TypeId}{cs:List AV}(h:hO P t=some cs):∃z,zeroOf P t=some z/\xA z=true/\eo (ofValue z)=true/\cs=(ofValue z).cells:=by grind[hO]
def xa(fr:Fr)(d:Nat)(cells:List AV)(len cap:Nat):Fr:=
 {fr with env:=fO fr.env d (.vH d (fr.gen d+1) len cap),box:=fO fr.box d (some cells),gen:=fO fr.gen d (fr.gen d+1)}
def wu(n:Nat):List AV:=List.replicate n .undef
def Cr(P:Program)(T:dt)(c:Call)(dst:Option Nat)(K:Fr->cZ->Prop)(fr:Fr)(H:cZ):Prop:=
 match dst,c.args.toList,c.argTypes.toList with
 |some d,[s,x],[t,f]=>
  match mK P t,ev T fr x with
  |some (e,sz),.slice _ m=>
   f=t/\kA sz m=true/\(hO P e).isSome=true/\0<m.length/\match ev T fr s with
   |.slice .full l=>kA sz l=true/\l.length+m.length<=jn/\∀cap,l.length+m.length<=cap->K (xa fr d (l.flatMap AV.cells++m.flatMap AV.cells++wu ((cap-(l.length+m.length))*sz)) (l.length+m.length) cap) H|.vH b g len cap=>g=fr.gen b/\len+m.length<=jn/\match fr.box b with
    |some cs=>cs.length=cap*sz/\(len+m.length<=cap->K {fr with env:=fO fr.env d (.vH b g (len+m.length) cap),box:=fO fr.box b (some (setCells cs (len*sz) (m.flatMap AV.cells)))} H)/\(∀a,cap<len+m.length->len+m.length<=a->K (xa fr d (cs.take (len*sz)++m.flatMap AV.cells++wu ((a-(len+m.length))*sz)) (len+m.length) a) H)|none=>False
   |_=>False
  |_,_=>False
 |_,_,_=>False
section
variable{P:Program} {T:dt} {n:Nat} {G0:Nat->Nat} {F0:jo} {n0:Nat} {w0:World} {fr:Fr} {H:cZ} {a:Act} {w:World}
def N4{e:TypeId}(h:(hO P e).isSome=true){i:TypeInfo}{z:Value}(hi:P.info? e=some i)(a:i.zero=some z):∀u∈z.cells.toList,u.oneCell'=true:=by grind[hO,Jc,zeroOf,Av,ofValue,eo]
def mT(w:World){t e:TypeId}{sz:Nat}(q:mK P t=some (e,sz))(r:(hO P e).isSome=true)(ty:TypeId)(base:Option Addr)(a d:Nat)(f:List Value)(holds:f.length=a*sz)
  (F:base=none->a=0/\d=0) (G:∀l,base=some l->∀j v,f[j]?=some v->w.cell? (l.add j)=some v)
  (l:Addr) (m c:Nat) (news:List Value) (C:news.length=m*sz) (hn:∀j v,news[j]?=some v->w.cell? (l.add j)=some v) (n:d<a+m) (o:a+m<=jn):∃cap rest,a+m<=cap/\cap<=maxLen/\rest.length=(cap-(a+m))*sz/\(∀u∈rest,u.oneCell'=true)/\(Builtin.append_ #[t,t] ty #[.slice base a d,.slice (some l) m c]).run P w=.ok (.slice (some ⟨w.heap.size,0,none⟩) (a+m) cap) (w.drew.alloc (.cells (f++news++rest).toArray e)):=by
 obtain⟨i,z,hu,hi,s,x,y,A,D⟩:=mi q;subst y;have k:a+m<=549755813888:=o
 have h:(a+m)*i.bytes<=140737488355328:=by
  have:=Gf k A;omega
 have xI:a+m<=maxLen:=by simp only[maxLen];omega
 have B:=grownCap_ge w (a+m) d e;have hle:=grownCap_le_maxLen w (a+m) d e xI;refine⟨grownCap w (a+m) d e,(Builtin.zeroCells z.cells (grownCap w (a+m) d e-(a+m))).toList,B,hle,?_,vN (N4 r hi s) VW _,?_⟩
 .simp only[V6,size_zeroCells,x]
 .have H:(f++news++(Builtin.zeroCells z.cells (grownCap w (a+m) d e-(a+m))).toList).toArray=f.toArray++news.toArray++Builtin.zeroCells z.cells (grownCap w (a+m) d e-(a+m)):=by
   apply Dh.1;simp
  rw[H];cases base with
  |some b=>
   exact run_append_grow w t ty e i z hu hi s b a d f holds (G b rfl) l m c news C hn n VW (growslice_fits n h)
  |none=>
   obtain⟨rfl,rfl⟩:=F rfl;have:f=[]:=z8 (by simpa using holds);subst this;simp only[tH] at n h k|-;have:=run_append_nil (P:=P) w t ty e i z hu hi s l m c news C hn VW VW VW;simpa using this
def GV{F:jo}{ρ:Maps}:∀{rest:List Value} {k:Nat},rest.length=k->(∀u∈rest,u.oneCell'=true)->fU (iF F ρ) (wu k) rest
 |[],k,h,_=>by cases h;exact .nil
 |u::rest,k,h,a=>by
  cases h;exact .cons (.p (.undef (a u aaL))) (GV rfl λv b=>a v (by simp[b]))
def wz(k:Nat):∀c∈wu k,c.fJ=true:=by
 intro c a;rw[List.eq_of_mem_replicate a];rfl
def WR.U'{ρ:Maps}{F:jo}{R:Nat->nb}(h:WR T n w0.heap.size ρ F R fr H a w)(s:Ext w0.heap.size G0 F0 n0 w0 ρ.G F H.length w){d len cap:Nat}(l:d<n){cells:List AV}{vs:Array Value}(ty:TypeId)
  (o:fU (iF F ρ) cells vs.toList) (i:∀c∈cells,c.fJ=true) (hlen:len<=cap) (zO:cap<=maxLen):SR T n G0 F0 n0 w0 (xa fr d cells len cap) H (a.put (some d) (.slice (some ⟨w.heap.size,0,none⟩) len cap)) (w.drew.alloc (.cells vs ty)):=by
 have t:=h.drew.alloc (.cells vs ty);have k:(w.drew.alloc (.cells vs ty)).heap[w.drew.heap.size]?=some (.cells vs ty (0,0)):=heap_alloc_new w.drew _;have u:w.drew.heap.size=w.heap.size:=rfl;have f:R w.drew.heap.size=.free:=h.k4 _ (gO _);have hF:∀j,F w.drew.heap.size j=none:=λj=>h.g.fresh _ j (gO _);obtain⟨ρ',y,hG,hw⟩:=t.aas h.qi f hF k o i l;have A:=hw.box d cells (by simp[fO])
 have B:ρ'.L d (fr.gen d+1)=w.heap.size:=by
  have he:=hw.env d
  have q:({fr with env:=fO fr.env d (.gx d (fr.gen d+1) 0),box:=fO fr.box d (some cells),gen:=fO fr.gen d (fr.gen d+1)}:Fr).env d=.gx d (fr.gen d+1) 0:=by simp[fO]
  rw[q,MW a (some d) _ d (by intro C he;injection he with he;subst he;rw[h.size];exact l),cS rfl] at he;have:=(wq he).1;injection this with this;injection this with this;injection this with this;exact this.symm
 have r:fr.gen d+1<=ρ'.lg d:=by
  rw[hw.lg d];simp[fO]
 have js:=hw.put (d:=some d) (by intro C he;injection he with he;subst he;exact l) (x:=.vH d (fr.gen d+1) len cap) (v:=.slice (some ⟨w.heap.size,0,none⟩) len cap) (by
  have:=iF.vH (F:=F) (ρ:=ρ') (b:=d) (g:=fr.gen d+1) r hlen zO;rw[B] at this
  exact .cell this)
 refine⟨ρ',F,y,?_,?_⟩
 .have q:(({fr with env:=fO fr.env d (.gx d (fr.gen d+1) 0),box:=fO fr.box d (some cells),gen:=fO fr.gen d (fr.gen d+1)}:Fr).put (some d) (.vH d (fr.gen d+1) len cap))=xa fr d cells len cap:=by
   simp only[xa,Fr.put,KK]
  have D:(a.put (some d) (.pointer (some ⟨w.heap.size,0,none⟩))).put (some d) (.slice (some ⟨w.heap.size,0,none⟩) len cap)=a.put (some d) (.slice (some ⟨w.heap.size,0,none⟩) len cap):=by
   simp[Act.put]
  rw[q,D] at js;exact js
 .rw[hG];exact(s.drew).alloc h.qi _
def HD{ρ:Maps}{F:jo}{R:Nat->nb}(h:WR T n w0.heap.size ρ F R fr H a w)(hx:Ext w0.heap.size G0 F0 n0 w0 ρ.G F H.length w){c:Call}{dst:Option Nat}{ty:TypeId}{K:Fr->cZ->Prop}
  (y:Cr P T c dst K fr H) (hd:∀d,dst=some d->d<n) (ar:∀x∈c.args.toList,iv x=true):∃v w' fr' H',(Builtin.append_ c.argTypes ty (c.args.map a.eval)).run P w=.ok v w'/\K fr' H'/\SR T n G0 F0 n0 w0 fr' H' (a.put dst v) w':=by
 unfold Cr at y
 split at y
 .rename_i d s x t t' A aw;have W:=hd d rfl;have e1:c.argTypes=#[t,t']:=Dh.1 (by rw[aw]);have e2:c.args.map a.eval=#[a.eval s,a.eval x]:=Dh.1 (by rw[NP,A];rfl);rw[e1,e2];have S:=fA h.env h.gv s (ar s (by rw[A];simp));have ax:=fA h.env h.gv x (ar x (by rw[A];simp))
  split at y
  .rename_i e sz aT m X aF;obtain⟨rfl,aG,ay,Y,y⟩:=y;rw[aF] at ax;obtain⟨aH,D,b2,o2,aX,k,aI,f,_,_⟩:=mz ax;have hm:m≠[]:=R0.1 Y;have az:=qf aG f.sz;have U:=f.base hm
   have B:∀j v,k[j]?=some v->w.cell? ((⟨b2,o2,none⟩:Addr).add j)=some v:=by
    intro j v Q;rw[Addr.add_lit];exact h.g.Cp b2 _ v (f.has j v Q)
   have I:k.length=m.length*sz:=by rw[<-f.cells.length,ni az]
   have J:fU (iF F ρ) (m.flatMap AV.cells) k:=f.cells.sW.mono λ_ _ _ h=>.p h;have Z:∀u∈k,u.oneCell'=true:=iO J f.r7;obtain⟨i,z,hu,hi,hz,aY,ae,aZ,aU⟩:=mi X;rw[aI,U]
   split at y
   .--a new row
    rename_i l hs;obtain⟨aJ,M,y⟩:=y;rw[hs] at S;obtain⟨base,cap,b,o,a1,vs,af,C,ah,_⟩:=mz S;rw[af];have zO:cap=l.length:=ah rfl;have aA:=qf aJ C.sz
    have V:vs.length=l.length*sz:=by rw[<-C.cells.length,ni aA]
    have aK:base=none->l.length=0/\cap=0:=by
     rintro rfl
     have aL:l=[]:=by
      rcases abl l with h'|⟨_,_,h'⟩
      .exact h'
      .have:=C.base (by rw[h'];simp);cases this
     subst aL;exact⟨rfl,zO⟩
    have ho:∀ad,base=some ad->∀j v,vs[j]?=some v->w.cell? (ad.add j)=some v:=by
     intro ad ai j v Q
     have aB:l≠[]:=by
      rintro rfl;have:vs=[]:=z8 (by simpa using V);rw[this] at Q;simp at Q
     have:=C.base aB;rw[ai] at this;obtain rfl:=fQ this;rw[Addr.add_lit];exact h.g.Cp b _ v (C.has j v Q)
    obtain⟨N,rest,O,ak,an,ao,q⟩:=mT w X ay ty base l.length cap vs V aK ho ⟨b2,o2,none⟩ m.length D k I B VW M;refine⟨_,_,_,_,q,y N O,h.U' hx W e ?_ ?_ O ak⟩
    .simp only;exact((C.cells.sW.mono λ_ _ _ h=>iF.p h).append J).append (GV an ao)
    .intro c hc;simp only[rA] at hc;rcases hc with(hc|hc)|hc
     .exact C.r7 c hc
     .exact f.r7 c hc
     .exact wz _ c hc
   .--a row of a6 aC own
    rename_i b g len cap hs;obtain⟨hg,M,y⟩:=y;rw[hs] at S;obtain⟨af,aM,aN,aO⟩:=yF S;rw[af]
    split at y
    .rename_i cs hb;obtain⟨aP,aQ,aR⟩:=y;obtain⟨b1,aS,b3,cur,cty,b4,b5⟩:=h.box b cs hb;rw[<-hg] at b1 aS b4
     have aV:cur.size=cap*sz:=by rw[<-aP];simpa using b5.length.symm
     have hle:len*sz<=cap*sz:=GM _ aN
     by_cases r:len+m.length<=cap
     .have aW:len*sz+m.length*sz<=cap*sz:=by rw[<-AO];exact GM _ r
      have q:=wk (P:=P) w t' ty e cty i hu hi (ρ.L b g) len cap cur b4 ⟨b2,o2,none⟩ m.length D k (by rw[ae];exact I) B Z r (by rw[ae];omega);rw[ae] at q;have eO:=b5.setCells J (len*sz);have aD:(m.flatMap AV.cells).length=k.length:=J.length
      have aq:∀c∈setCells cs (len*sz) (m.flatMap AV.cells),c.fJ=true:=by
       intro c hc;simp only[setCells,rA] at hc;rcases hc with(hm|hm)|hm
       .exact b3 c (AF hm)
       .exact f.r7 c hm
       .exact b3 c (Hc hm)
      have aE:=h.VR hb (vs':=(cur.toList.take (len*sz)++k++cur.toList.drop (len*sz+k.length)).toArray) (by rw[<-aD];simpa[aD] using eO) aq;rw[<-hg] at aE;have js:=aE.put (d:=some d) (by intro d' he;injection he with he;subst he;exact W) (x:=.vH b g (len+m.length) cap) (v:=.slice (some ⟨ρ.L b g,0,none⟩) (len+m.length) cap) (.cell (.vH aM r aO));refine⟨_,_,_,_,q,aQ r,ρ,F,R,js,hx.setRow (.inl b1) _⟩
     .have ho:∀ad,some (⟨ρ.L b g,0,none⟩:Addr)=some ad->∀j v,(cur.toList.take (len*sz))[j]?=some v->w.cell? (ad.add j)=some v:=by
       intro ad ai j v Q;obtain rfl:=fQ ai;rw[Addr.add_lit,tH,cell_of_row w _ _ cur cty (0,0) b4];rw[Nu] at Q
       split at Q
       .simpa using Q
       .cases Q
      obtain⟨N,rest,O,ak,an,ao,q⟩:=mT w X ay ty (some ⟨ρ.L b g,0,none⟩) len cap (cur.toList.take (len*sz)) acz (by intro h;cases h) ho ⟨b2,o2,none⟩ m.length D k I B VW M;refine⟨_,_,_,_,q,aR N VW O,h.U' hx W e ?_ ?_ O ak⟩
      .simp only;exact((b5.take _).append J).append (GV an ao)
      .intro c hc;simp only[rA] at hc;rcases hc with(hc|hc)|hc
       .exact b3 c (AF hc)
       .exact f.r7 c hc
       .exact wz _ c hc
    .exact y.elim
   .exact y.elim
  .exact y.elim
 .exact y.elim
end
end Go.kC
namespace Go.kC
open Go Go.MapKept
def GH:TypeDesc->Value->Bool
 |.bool,.bool _=>true|.int k,.int k' _=>k'==k|.string,.string _=>true|_,_=>false
def Wu:Value->Value->Bool
 |.bool a,.bool b=>a==b|.int _ a,.int _ b=>a==b|.string a,.string b=>a==b|_,_=>false
theorem uC{d:TypeDesc}{v:Value}(h:GH d v=true):IsKey d v:=by
 unfold GH at h
 split at h<;>simp_all [IsKey]
def Db{d:TypeDesc}{a b:Value}(c:IsKey d a)(f:IsKey d b):Wu a b=true↔a=b:=by
 cases d<;>cases a<;>cases b<;>simp_all [IsKey,Wu,bytes_beq]
def mapIdx(ks:List Value)(k:Value):Option Nat:=ks.findIdx? (λx=>Wu x k)
def yo{d:TypeDesc}{k:Value}(f:IsKey d k):∀{ks:List Value} {j:Nat},(∀x∈ks,IsKey d x)->ks.Nodup->ks[j]?=some k->mapIdx ks k=some j
 |[],j,_,_,h=>by simp at h
 |x::ks,j,a,hn,h=>by
  have b:=a x aaL;unfold mapIdx;rw[YS];cases j with
  |zero=>
   simp at h;subst h;rw[cS ((Db b b).2 rfl)]
  |succ j=>
   simp at h
   have c:x≠k:=by
    rintro rfl;exact(UO.1 hn).1 (CO h)
   rw[cO (λe=>c ((Db b f).1 e))];have:=yo f (λy hy=>a y (by simp[hy])) (UO.1 hn).2 h;unfold mapIdx at this;rw[this];rfl
def zh{d:TypeDesc}{k:Value}(b:IsKey d k):∀{ks:List Value},(∀x∈ks,IsKey d x)->(∀x∈ks,x≠k)->mapIdx ks k=none
 |[],_,_=>rfl|x::ks,a,h=>by
  unfold mapIdx;rw[YS,cO (λe=>h x aaL ((Db (a x aaL) b).1 e))];have:=zh b (ks:=ks) (λy hy=>a y (by simp[hy])) (λy hy=>h y (by simp[hy]))
  grind[mapIdx]
def GD(P:Program)(t:TypeId):Option AV:=
 match zeroOf P t with
 |some z=>if xA z=true/\eo (ofValue z) then some (ofValue z).norm else none|none=>none
def p6(P:Program)(H:cZ)(t:TypeId)(x i:AV)(ok:Bool):Option AV:=
 match P.underlying t,x,i with
 |some (.map kt e),.iR o,.sc k=>
  match P.underlying kt,H[o]?,GD P e with
  |some d,some [.rG ks xs],some z=>
   if GH d k=true/\ks.all (GH d) then
    match mapIdx ks k with
    |some j=>(xs[j]?).map λv=>if ok then .tuple [v,.sc (.bool true)] else v|none=>some (if ok then .tuple [z,.sc (.bool false)] else z)
   else none
  |_,_,_=>none
 |_,_,_=>none
def Df(ks:List Value)(xs:List AV)(k:Value)(v:AV):AV:=
 match mapIdx ks k with
 |some j=>.rG ks (xs.set j v)|none=>.rG (ks++[k]) (xs++[v])
def rq(P:Program)(t:TypeId)(x i v:AV)(K:Fr->cZ->Prop)(fr:Fr)(H:cZ):Prop:=
 match P.underlying t,x,i with
 |some (.map kt _),.iR o,.sc k=>
  match P.underlying kt,H[o]?with
  |some d,some [.rG ks xs]=>GH d k=true/\ks.all (GH d)=true/\K fr (H.set o [Df ks xs k v.norm])|_,_=>False
 |_,_,_=>False
def F6(dst:Option Nat)(K:Fr->cZ->Prop)(fr:Fr)(H:cZ):Prop:=K (fr.put dst (.iR H.length)) (H++[[.rG [] []]])
def GC(P:Program)(t:TypeId)(x:AV)(dst:Option Nat)(K:Fr->cZ->Prop)(fr:Fr)(H:cZ):Prop:=
 match P.underlying t,x with
 |some (.map _ _),.iR o=>
  match H[o]?with
  |some [.rG ks _]=>K (fr.put dst (.eb H.length 0)) (H++[[.lM o ks.length []]])|_=>False
 |_,_=>False
def Jw(x:AV)(dst:Option Nat)(K:Fr->cZ->Prop)(fr:Fr)(H:cZ):Prop:=
 match x with
 |.eb i 0=>
  match H[i]?with
  |some [.lM o since seen]=>
   match H[o]?with
   |some [.rG ks xs]=>ks.length=since/\ks.all vK=true/\((∀j,j<ks.length->j∈seen)->K (fr.put dst (.tuple [.sc (.bool false)])) H)/\∀j k v,ks[j]?=some k->xs[j]?=some v->j∉seen->K (fr.put dst (.tuple [.sc (.bool true),.sc k,v])) (H.set i [.lM o since (seen++[j])])|_=>False
  |_=>False
 |_=>False
def Du(x:AV)(H:cZ):Option AV:=
 match x with
 |.eb i 0=>
  match H[i]?with
  |some [.lM o since seen]=>
   match H[o]?,seen.getLast? with
   |some [.rG ks xs],some j=>
    match ks[j]?,xs[j]?with
    |some k,some v=>if ks.length=since/\vK k then some (.tuple [.sc k,v])else none|_,_=>none
   |_,_=>none
  |_=>none
 |_=>none
def kB.xk{F:jo}{G:Nat->Nat}{n:Nat}{ks xs ob}(h:kB F G n [.rG ks xs] ob):∃es clock,ob=.map es clock/\es.toList.map (·.key)=ks/\fU (fE F G n) xs (es.toList.map (·.val))/\es.toList.map (·.born)=List.range ks.length/\clock=ks.length/\ks.Nodup:=by
 cases h with
 |cells c b a=>have:=a (.rG ks xs) aaL;simp[AV.fJ] at this
 |map b a d f i=>grind
def kB.NF{F:jo}{G:Nat->Nat}{n:Nat}{o since seen ob}(h:kB F G n [.lM o since seen] ob):ob=.mapIter (some (G o)) since seen.toArray since/\o<n:=by
 cases h with
 |cells b c a=>have:=a (.lM o since seen) aaL;simp[AV.fJ] at this
 |iter h=>grind
section
variable{P:Program} {T:dt} {n B0:Nat} {ρ:Maps} {F:jo} {R:Nat->nb} {fr:Fr} {H:cZ} {a:Act} {w:World}
def zG{o:Nat}{v:Value}(h:fv F ρ (.iR o) v):v=.map (some (ρ.G o))/\o<ρ.n:=by
 cases h with
 |cell h=>cases h with
  |p h=>cases h with|iR h=>exact⟨rfl,h⟩
def T'(w:World){t:TypeId}{z:AV}(h:GD P t=some z):∃v,(zeroValue t).run P w=.ok v w/\fE F ρ.G ρ.n z v:=by
 unfold GD at h
 split at h
 .rename_i z0 a
  split at h
  .rename_i b;injection h with h;subst h;refine⟨z0,?_,(fv.p (xi _ _ _ _ b.1)).norm⟩;unfold zeroOf at a;cases hi:P.info? t with
   |none=>grind|some i=>
    rw[hi] at a;simp at a;simp[zeroValue,typeInfo,hi,a]
  .cases h
 .cases h
def Rf{d:TypeDesc}{ks:List Value}{es:Array MapEntry}(h:es.toList.map (·.key)=ks)(a:ks.all (GH d)=true):∀x∈es.toList,IsKey d x.key:=by grind[uC]
def E4{ks:List Value}{es:Array MapEntry}{j:Nat}{e:MapEntry}(h:es.toList.map (·.key)=ks)(a:es.toList[j]?=some e):ks[j]?=some e.key:=by grind
def M'(h:WR T n B0 ρ F R fr H a w){t:TypeId}{x i r:AV}{ok:Bool}{O Q:Value}(c:p6 P H t x i ok=some r)(I:fv F ρ x O)(hi:fv F ρ i Q):∃v,(Instr.lookup t O Q ok).run P w=.ok v w/\fv F ρ r v:=by
 unfold p6 at c
 split at c
 .rename_i kt e o k hu
  split at c
  .rename_i d ks xs z D V W
   split at c
   .rename_i J;obtain⟨rfl,_⟩:=zG I;obtain rfl:=e9 hi;obtain⟨ob,S,X⟩:=h.g.jU o _ V;obtain⟨es,clock,rfl,K,U,e3,e4,Y⟩:=X.xk;rw[<-h.hn] at U;have b:=uC J.1;have q:=Rf K J.2;have s:∀y∈ks,IsKey d y:=λy hy=>uC (jY.1 J.2 _ hy);obtain⟨L,M,u⟩:=T' (F:=F) (ρ:=ρ) w W;rcases findNow_spec b es.toList 0 q with⟨f,l⟩|⟨j,G,f,l,N⟩
    .rw[zh b s (by
      intro y hy;rw[<-K] at hy;obtain⟨x,I,rfl⟩:=nw.1 hy
      exact l x I)] at c
     simp only[uV] at c;subst c;refine⟨if ok then .tuple #[L,.bool false] else L,?_,?_⟩
     .cases ok<;>simp[Instr.lookup,run_underlying hu,MapKept.run_getObj_map S,run_checkKey D b,run_findKey D f,M,Result.andThen]
     .cases ok
      .exact .p u
      .exact .p (.tuple (vs:=[L,.bool false]) (.cons u (.cons (.sc rfl) .nil)))
    .have A:=E4 K l;rw[N] at A;rw[yo b s Y A] at c;simp only[Y1] at c;obtain⟨y,hy,rfl⟩:=c;obtain⟨Z,B,C⟩:=U.get hy
     have:Z=G.val:=by
      rw[yq,l] at B;simpa using B.symm
     subst this;simp only[tH] at f;refine⟨if ok then .tuple #[G.val,.bool true] else G.val,?_,?_⟩
     .cases ok<;>simp[Instr.lookup,run_underlying hu,MapKept.run_getObj_map S,run_checkKey D b,run_findKey D f,Result.andThen]
     .cases ok
      .exact .p C
      .exact .p (.tuple (vs:=[G.val,.bool true]) (.cons C (.cons (.sc rfl) .nil)))
   .cases c
  .cases c
 .cases c
def fU.ahe{α β:Type}{R:α->β->Prop}{as:List α}{bs:List β}(h:fU R as bs){a:α}{b:β}(c:R a b)(j:Nat):fU R (as.set j a) (bs.set j b):=by
 induction h generalizing j with
 |nil=>simp;exact .nil|cons d f ih=>cases j with
  |zero=>exact .cons c f|succ j=>exact .cons d (ih j)
def AI(f:MapEntry->MapEntry){α:Type}(g:MapEntry->α)(es:Array MapEntry)(j:Nat){e:MapEntry}(a:es.toList[j]?=some e):(es.modify j f).toList.map g=(es.toList.map g).set j (g (f e)):=by
 apply Um
 grind
def MD{α:Type}{l:List α}{j:Nat}{x:α}(h:l[j]?=some x):l.set j x=l:=by
 apply Um
 grind
def BQ{G0:Nat->Nat}{F0:jo}{n0:Nat}{w0:World}(h:WR T n w0.heap.size ρ F R fr H a w)(Q:Ext w0.heap.size G0 F0 n0 w0 ρ.G F H.length w){t:TypeId}{x i v:AV}{xv A B:Value}{K:Fr->cZ->Prop}
  (k:rq P t x i v K fr H) (S:fv F ρ x xv) (U:fv F ρ i A) (D:fv F ρ v B):∃fr' H' w',(Instr.mapUpdate t xv A B).run P w=.ok () w'/\K fr' H'/\SR T n G0 F0 n0 w0 fr' H' a w':=by
 unfold rq at k
 split at k
 .rename_i kt e o kk hu
  split at k
  .rename_i d ks xs O V;obtain⟨W,I,k⟩:=k;obtain⟨rfl,_⟩:=zG S;obtain rfl:=e9 U;obtain⟨ob,J,h2⟩:=h.g.jU o _ V;obtain⟨es,clock,rfl,C,X,e3,Y,e5⟩:=h2.xk;have c:=uC W;have r:=Rf C I;have L:∀y∈ks,IsKey d y:=λy hy=>uC (jY.1 I _ hy)
   have hlen:es.toList.length=ks.length:=by rw[<-C];simp
   rw[<-h.hn] at X
   have fin:∀(l:Obj) (s:List AV),kB F ρ.G ρ.n s l->K fr (H.set o s)->(Instr.mapUpdate t (.map (some (ρ.G o))) A B).run P w=.ok () {w with heap:=w.heap.setIfInBounds (ρ.G o) l}->∃fr' H' w',(Instr.mapUpdate t (.map (some (ρ.G o))) A B).run P w=.ok () w'/\K fr' H'/\SR T n G0 F0 n0 w0 fr' H' a w':=by
    intro l s Z k M;obtain⟨s1,s2⟩:=heap_set (o':=l) J;refine⟨_,_,_,M,k,ρ,F,R,h.Gq V aaL aaL s1 s2 Z,?_⟩;rw[Po];refine Q.NI rfl rfl rfl aaL λb hb hn=>s2 b ?_;rintro rfl;exact hn o (mI.1 V).1 rfl
   rcases findNow_spec c es.toList 0 r with⟨q,f⟩|⟨j,e0,q,f,N⟩
   .rw[Df,zh c L (by
     intro y hy;rw[<-C] at hy;obtain⟨x,Q,rfl⟩:=nw.1 hy
     exact f x Q)] at k
    refine fin (.map (es.push {key:=A,val:=B,born:=clock}) (clock+1)) _ (.map ?_ ?_ ?_ ?_ ?_) k ?_
    .simp[C]
    .simpa using X.append (.cons D.norm .nil)
    .simp[e3,Y,List.range_succ]
    .simp[Y]
    .grind
    .simp[Instr.mapUpdate,run_underlying hu,MapKept.run_getObj_map J,run_checkKey O c,run_findKey O q,run_setObj_map _ J,Result.andThen]
   .have u:=E4 C f;rw[N] at u;rw[Df,yo c L e5 u] at k
    have hj:es[j]?=some e0:=by simpa using f
    simp only[tH] at q;refine fin (.map (es.modify j λe=>{e with key:=A,val:=B}) clock) _ (.map ?_ ?_ ?_ Y e5) k ?_
    .rw[AI _ _ _ _ f,C,MD u]
    .rw[AI _ _ _ _ f];exact X.ahe D.norm j
    .rw[AI _ _ _ _ f,MD (by rw[yq,f];rfl),e3]
    .simp[Instr.mapUpdate,run_underlying hu,MapKept.run_getObj_map J,run_checkKey O c,run_findKey O q,hj,N,run_keyThatStays c,run_setObj_map _ J,Result.andThen]
  .exact k.elim
 .exact k.elim
def py{G0:Nat->Nat}{F0:jo}{n0:Nat}{w0:World}(h:WR T n w0.heap.size ρ F R fr H a w)(i:Ext w0.heap.size G0 F0 n0 w0 ρ.G F H.length w){ob:Obj}{cs:List AV}(c:kB F ρ.G ρ.n cs ob)
  {dst:Option Nat} (k:∀d,dst=some d->d<n) {x:AV} {v:Value} (l:∀ρ':Maps,(∀o,o<H.length->ρ'.G o=ρ.G o)->ρ'.G H.length=w.heap.size->ρ'.n=H.length+1->fE F ρ'.G ρ'.n x v):SR T n G0 F0 n0 w0 (fr.put dst x) (H++[cs]) (a.put dst v) (w.alloc ob):=by
 obtain⟨ρ',q,hG,b,f,hw⟩:=(h.alloc ob).Rg (h.k4 _ (gO _)) (λj=>h.g.fresh _ j (gO _)) (heap_alloc_new w _) c;refine⟨ρ',F,q,hw.put k (.p (l ρ' hG b f)),?_⟩;rw[rF];exact(i.alloc h.qi _).ae2 hG (by rw[b];exact h.qi)
def B6{G0:Nat->Nat}{F0:jo}{n0:Nat}{w0:World}(h:WR T n w0.heap.size ρ F R fr H a w)(j:Ext w0.heap.size G0 F0 n0 w0 ρ.G F H.length w){t k:Nat}{parts:List (Nat×AV)}{pv:List (Nat×Value)}{tag:Tag}{l:List AV}
  {dst:Option Nat} (q:lZ P t k parts=some (.slice tag l)) (c:fU (λ(x:Nat×AV) (y:Nat×Value)=>x.1=y.1/\fv F ρ x.2 y.2) parts pv) (r:∀d,dst=some d->d<n):∃v w',(Instr.buildSlice t k pv.toArray).run P w=.ok v w'/\SR T n G0 F0 n0 w0 (fr.put dst (.qU H.length 0 l.length l.length)) (H++[l.flatMap AV.cells]) (a.put dst v) w':=by
 obtain⟨B,us,e,sz,he,C,xI,s,b,f,i⟩:=zc w q c;injection he with _ he;subst he;refine⟨_,_,i,py h j (.cells (.inl rfl) (by simpa using b) f) r ?_⟩;intro ρ' hG u A;have:=fE.qU (F:=F) (G:=ρ'.G) (n:=ρ'.n) (o:=H.length) (off:=0) (len:=l.length) (cap:=l.length) (by grind)
 grind
def IS{G0:Nat->Nat}{F0:jo}{n0:Nat}{w0:World}(h:WR T n w0.heap.size ρ F R fr H a w)(b:Ext w0.heap.size G0 F0 n0 w0 ρ.G F H.length w){t:TypeId}{dst:Option Nat}(c:∀d,dst=some d->d<n):∃v w',(Instr.makeMap t none).run P w=.ok v w'/\SR T n G0 F0 n0 w0 (fr.put dst (.iR H.length)) (H++[[.rG [] []]]) (a.put dst v) w':=by
 refine⟨.map (some w.heap.size),w.alloc (.map #[] 0),by simp[Instr.makeMap],py h b (.map aaL (by simp;exact .nil) aaL rfl aaL) c ?_⟩;intro ρ' hG f i;have:=fE.iR (F:=F) (G:=ρ'.G) (n:=ρ'.n) (o:=H.length) (by grind)
 grind
def Ng{G0:Nat->Nat}{F0:jo}{n0:Nat}{w0:World}(h:WR T n w0.heap.size ρ F R fr H a w)(j:Ext w0.heap.size G0 F0 n0 w0 ρ.G F H.length w){t:TypeId}{x:AV}{i:Value}{dst:Option Nat}{K:Fr->cZ->Prop}
  (b:GC P t x dst K fr H) (k:∀d,dst=some d->d<n) (c:fv F ρ x i):∃v w' fr' H',(Instr.range t i).run P w=.ok v w'/\K fr' H'/\SR T n G0 F0 n0 w0 fr' H' (a.put dst v) w':=by
 unfold GC at b
 split at b
 .rename_i kt e o hu
  split at b
  .rename_i ks xs l;obtain⟨rfl,f⟩:=zG c;obtain⟨ob,q,r⟩:=h.g.jU o _ l;obtain⟨es,clock,rfl,A,B,C,s,D⟩:=r.xk;subst s;refine⟨_,_,_,_,run_range_map w t kt e (ρ.G o) es ks.length hu q,b,py h j (.iter (seen:=[]) f) k ?_⟩;intro ρ' hG u y;have:=fE.eb (F:=F) (G:=ρ'.G) (n:=ρ'.n) (o:=H.length) (off:=0) (by grind)
   grind
  .exact b.elim
 .exact b.elim
def Nz{es:Array MapEntry}{k:Nat}(h:es.toList.map (·.born)=List.range k){e:MapEntry}(he:e∈es.toList):e.born<k/\es.toList[e.born]?=some e:=by
 obtain⟨j,a⟩:=Y4.1 he
 have b:(es.toList.map (·.born))[j]?=some e.born:=by grind
 grind
def Hz(w:World){it m since:Nat}{seen:Array Nat}{es:Array MapEntry}(ty:TypeId)(hit:w.heap[it]?=some (.mapIter (some m) since seen since))(hm:w.heap[m]?=some (.map es since))(r:es.toList.map (·.born)=List.range since):((∀e∈es.toList,e.born∈seen)/\(Instr.next (.pointer (some ⟨it,0,none⟩)) false ty).run P w=.ok (.tuple #[.bool false]) w)\/∃e∈es.toList,e.born∉seen/\∃a,(a=w\/a=w.drew)/\(Instr.next (.pointer (some ⟨it,0,none⟩)) false ty).run P w=.ok (.tuple #[.bool true,e.key,e.val]) {a with heap:=a.heap.setIfInBounds it (.mapIter (some m) since (seen.push e.born) since)}:=by
 have hold:∀x∈es.toList,x.born<since:=λx c=>(Nz r c).1;simp only[Instr.next,getObj,gk,Sem.run,hit,hm,Result.andThen,next_test_false seen es since since hold (gO _),pc,lL]
 have k:∀x,x∈(Array.filter (λe=>!seen.contains e.born) es).toList↔x∈es.toList/\x.born∉seen:=by
  intro x;simp
 generalize Array.filter (λe=>!seen.contains e.born) es=L at k|-;have b:∀x∈L.toList,x.born<since:=λx c=>hold x ((k x).1 c).1;have s:L.filter (λx=>decide (x.born<since))=L:=Array.filter_eq_self.2 (λx c=>by simpa using b x (by simpa using c))
 have t:L.filter (λx=>decide (x.born>=since))=#[]:=by
  rw[Array.filter_eq_empty_iff];intro x c;have:=b x (by simpa using c);simp;omega
 simp only[s,t,Array.append_empty]
 by_cases o:L.size=0
 .left;have:L=#[]:=acB o;subst this;refine⟨?_,?_⟩
  . grind
  . simp[choose,Sem.run,Question.forced]
 .right
  have l:L.isEmpty=false:=by simp[Array.isEmpty,o]
  simp only[l,pc,lL,Array.empty_append,Array.size_map]
  have n:∃(j:Nat) (a:World),j<L.size/\(a=w\/a=w.drew)/\(choose (Question.mapNext L.size)).run P w=.ok j a:=by
    by_cases q:L.size<=1
    .exact⟨0,w,VW,.inl rfl,by simp[choose,Sem.run,Question.forced,q]⟩
    .exact⟨_,w.drew,Xs _ VW,.inr rfl,by
      simp only[choose,Sem.run,Question.forced,oc,q,lL,Question.cut]
      rfl⟩
  obtain⟨j,a,u,d,f⟩:=n;have h:=(k L[j]).1 aaL;refine⟨L[j],h.1,h.2,a,d,?_⟩
  have i:a.heap[it]?=some (.mapIter (some m) since seen since):=by
    rcases d with rfl|rfl
    .exact hit
    .exact hit
  have eO:∀(o':Obj),(setObj it o').run P a=.ok () {a with heap:=a.heap.setIfInBounds it o'}:=λo'=>by
    simp only[setObj,Sem.run,i]
  simp only[f,Array.getElem?_map,aed u,X3,gk,eO,Result.andThen];rfl
def Ql(h:WR T n B0 ρ F R fr H a w){x r:AV}{G:Value}(b:Du x H=some r)(u:fv F ρ x G):∃v,(Instr.entry G).run P w=.ok v w/\fv F ρ r v:=by
 unfold Du at b
 split at b
 .rename_i i
  split at b
  .rename_i o since seen hi
   split at b
   .rename_i ks xs j M N
    split at b
    .rename_i k v I O
     split at b
     .rename_i Q;obtain⟨hlen,y⟩:=Q;injection b with b;subst b;obtain⟨rfl,S⟩:=tN u;obtain⟨ob,g1,g2⟩:=h.g.jU i _ hi;obtain⟨rfl,U⟩:=g2.NF;obtain⟨V,W,X⟩:=h.g.jU o _ M;obtain⟨es,clock,rfl,J,K,A,L,e5⟩:=X.xk;rw[hlen] at A L;subst L;rw[<-h.hn] at K;obtain⟨Y,f,B⟩:=K.get O
      have C:j<clock:=by rw[<-hlen];exact(mI.1 I).1
      have l:j<es.toList.length:=by
       have:(es.toList.map (·.key)).length=ks.length:=by rw[J]
       simp only[yA] at this;omega
      have c:es.toList[j]?=some es.toList[j]:=l5 l
      have Z:es.toList[j].born=j:=by
       have q:(es.toList.map (·.born))[j]?=some es.toList[j].born:=by rw[yq,c];rfl
       rw[A,afK C] at q;exact(fQ q).symm
      have s:es.toList[j].key=k:=by
       have q:=E4 J c;rw[I] at q;exact(fQ q).symm
      have t:es.toList[j].val=Y:=by
       rw[yq,c] at f;exact fQ f
      have hf:es.find? (·.born==j)=some es.toList[j]:=by
       rw[<-Array.find?_toList]
       have D:(es.toList.map (·.born)).Nodup:=by rw[A];exact List.nodup_range
       have:=find_born es.toList[j] es.toList D (Cy l);rw[Z] at this;exact this
      have d:seen.toArray.back?=some j:=by
       rw[<-N];simp
      refine⟨.tuple #[es.toList[j].key,es.toList[j].val],?_,.p (.tuple (vs:=[es.toList[j].key,es.toList[j].val]) (.cons (by rw[s];exact .sc y) (.cons (by rw[t];exact B) .nil)))⟩;simp only[Instr.entry,getObj,gk,Sem.run,g1,W,Result.andThen,d,bne_self_eq_false,pc,lL,hf];rfl
     .cases b
    .cases b
   .cases b
  .cases b
 .cases b
def P2{G0:Nat->Nat}{F0:jo}{n0:Nat}{w0:World}(h:WR T n w0.heap.size ρ F R fr H a w)(A:Ext w0.heap.size G0 F0 n0 w0 ρ.G F H.length w){x:AV}{Y:Value}{dst:Option Nat}{K:Fr->cZ->Prop}(ty:TypeId)
  (f:Jw x dst K fr H) (Z:∀d,dst=some d->d<n) (B:fv F ρ x Y):∃v w' fr' H',(Instr.next Y false ty).run P w=.ok v w'/\K fr' H'/\SR T n G0 F0 n0 w0 fr' H' (a.put dst v) w':=by
 unfold Jw at f
 split at f
 .rename_i i
  split at f
  .rename_i o since seen hi
   split at f
   .rename_i ks xs ho;obtain⟨hlen,C,D,I⟩:=f;obtain⟨rfl,ad⟩:=tN B;obtain⟨ob,g1,g2⟩:=h.g.jU i _ hi;obtain⟨rfl,J⟩:=g2.NF;obtain⟨ae,h1,h2⟩:=h.g.jU o _ ho;obtain⟨es,clock,rfl,e1,L,y,e4,e5⟩:=h2.xk;rw[hlen] at y e4;subst e4;rw[<-h.hn] at L
    have af:es.toList.length=ks.length:=by rw[<-e1];simp
    rcases Hz (P:=P) w ty g1 h1 y with⟨l,c⟩|⟨e,he,M,N,k,c⟩
    .refine⟨_,_,_,_,c,D ?_,ρ,F,R,h.put Z (.p (.tuple (vs:=[.bool false]) (.cons (.sc rfl) .nil))),A⟩;intro j hj
     have q:j<es.toList.length:=VW
     have hm:=l es.toList[j] (Cy q)
     have O:(es.toList.map (·.born))[j]?=some es.toList[j].born:=by rw[yq,l5 q];rfl
     rw[y,afK VW] at O
     have:j=es.toList[j].born:=by simpa using O
     rw[this];simpa using hm
    .obtain⟨b1,Q⟩:=Nz y he;have hk:ks[e.born]?=some e.key:=E4 e1 Q
     have S:(es.toList.map (·.val))[e.born]?=some e.val:=by rw[yq,Q];rfl
     have ah:xs.length=es.toList.length:=by have:=L.length;simpa using this
     obtain⟨v,hv⟩:∃v,xs[e.born]?=some v:=⟨_,l5 (by have:=(mI.1 Q).1;omega)⟩;obtain⟨vv,r,U⟩:=L.get hv
     have:vv=e.val:=by rw[S] at r;simpa using r.symm
     subst this;have s:vK e.key=true:=jY.1 C _ (CO hk);have V:=I e.born e.key v hk hv (by simpa using M)
     have t:WR T n w0.heap.size ρ F R fr H a N:=by
      rcases k with rfl|rfl
      .exact h
      .exact h.drew
     have u:Ext w0.heap.size G0 F0 n0 w0 ρ.G F H.length N:=by
      rcases k with rfl|rfl
      .exact A
      .exact A.drew
     have W:N.heap[ρ.G i]?=some (.mapIter (some (ρ.G o)) clock seen.toArray clock):=by
      rcases k with rfl|rfl
      .exact g1
      .exact g1
     obtain⟨s1,s2⟩:=heap_set (o':=.mapIter (some (ρ.G o)) clock (seen.toArray.push e.born) clock) W
     have X:kB F ρ.G ρ.n [.lM o clock (seen++[e.born])] (.mapIter (some (ρ.G o)) clock (seen.toArray.push e.born) clock):=by
      have:=kB.iter (F:=F) (G:=ρ.G) (n:=ρ.n) (o:=o) (since:=clock) (seen:=seen++[e.born]) (by rw[h.hn];exact J);simpa using this
     refine⟨_,_,_,_,c,V,ρ,F,R,(t.Gq hi aaL aaL s1 s2 X).put Z (.p (.tuple (vs:=[.bool true,e.key,e.val]) (.cons (.sc rfl) (.cons (.sc s) (.cons U .nil))))),?_⟩;rw[Po];refine u.NI rfl rfl rfl aaL λb O hn=>s2 b ?_;rintro rfl;exact hn i (mI.1 hi).1 rfl
   .exact f.elim
  .exact f.elim
 .exact f.elim
end
end Go.kC
