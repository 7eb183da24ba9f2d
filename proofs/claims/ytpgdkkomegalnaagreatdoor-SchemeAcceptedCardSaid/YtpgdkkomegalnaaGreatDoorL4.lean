/- Part of the proof of SchemeAccepted: layer. -/
import Derived.Great.BuildSlice
import Derived.Lib.AppendStr
import Derived.MapKept
import Derived.Laws.IdiomRangeMap
import Derived.Test.YtpgdkkomegalnaaGreatDoorL3
set_option linter.all false
namespace Go.kY
open Go
section
variable{B:Nat} {G G':Nat->Nat} {F F':kD} {n:Nat} {G0:Nat->Nat} {F0:kD} {n0:Nat} {w0 w w':World}
def Ext.OZ(h:Ext B G0 F0 n0 w0 G F n w)(a:w'.os=w.os)(c:w'.tape=w.tape)(d:w'.output=w.output)(hs:w.heap.size<=w'.heap.size)
  (f:∀b,b<B->(∀o,o<n->G o≠b)->w'.heap[b]?=w.heap[b]?):Ext B G0 F0 n0 w0 G F n w':=
 h.trans ⟨a,c,d,hs,jy _,λ_ _=>rfl,λ_ h i=>absurd i xL,λ_ _ _ _=>rfl,λ_ _ _ _ h=>h,f⟩
def Ext.drew(h:Ext B G0 F0 n0 w0 G F n w):Ext B G0 F0 n0 w0 G F n w.drew:=h.OZ rfl rfl rfl (jy _) λ_ _ _=>rfl
def Ext.alloc(h:Ext B G0 F0 n0 w0 G F n w)(a:B<=w.heap.size)(o:Obj):Ext B G0 F0 n0 w0 G F n (w.alloc o):=
 h.OZ rfl rfl rfl LA λb c _=>heap_alloc_old w o xL
def Ext.setRow(h:Ext B G0 F0 n0 w0 G F n w){g:Nat}(hg:B<=g\/∃o,o<n/\G o=g)(cs:Array Value):Ext B G0 F0 n0 w0 G F n (w.setRow g cs):=
 h.OZ rfl rfl rfl (by rw[size_setRow];exact jy _) λb c hn=>setRow_other w g b cs (by
  rintro rfl;rcases hg with hg|⟨o,a,hg⟩
  ·omega
  ·exact hn o a hg)
def Ext.freeze(h:Ext B G0 F0 n0 w0 G F n w)(hF:∀b j,b<B->F' b j=F b j):Ext B G0 F0 n0 w0 G F' n w:=
 h.trans ⟨rfl,rfl,rfl,jy _,jy _,λ_ _=>rfl,λ_ h c=>absurd c xL,λb j a _=>hF b j a,λb j v a d=>(hF b j a).trans d,λ_ _ _=>rfl⟩
def Ext.ag9(h:Ext B G0 F0 n0 w0 G F n w)(hG:∀o,o<n->G' o=G o)(hn:B<=G' n):Ext B G0 F0 n0 w0 G' F (n+1) w:=
 h.trans ⟨rfl,rfl,rfl,jy _,xL,hG,λo a b=>(by rw[show o=n from xL];exact hn),λ_ _ _ _=>rfl,λ_ _ _ _ h=>h,λ_ _ _=>rfl⟩
end
def SR(T:eA)(n:Nat)(G0:Nat->Nat)(F0:kD)(n0:Nat)(w0:World)(fr:Fr)(H:dS)(a:Act)(w:World):Prop:=
 ∃ρ F R,WR T n w0.heap.size ρ F R fr H a w/\Ext w0.heap.size G0 F0 n0 w0 ρ.G F H.length w
def ud(P:Program)(fr:Fr)(H:dS)(t:TypeId)(x:AV):Option AV:=
 match x with
 |.kU v=>if tx P t v then some v else none|.gX b g off=>if g=fr.gen b then(match fr.box b with|some cs=>mr P t cs off|none=>none)else none
 |.eK o off=>match H[o]?with|some cs=>if ue cs then mr P t cs off else none|none=>none
 |_=>none
section
variable{P:Program} {T:eA} {n B0:Nat} {ρ:Maps} {F:kD} {R:Nat->ou} {fr:Fr} {H:dS} {a:Act} {w:World}
def VO{t:TypeId}{v:AV}(h:tx P t v=true):(∃k cs,fu P t=some (true,k)/\v=.agg cs/\cs.length=k)\/(∃k,fu P t=some (false,k)/\v.gf=true):=by
 unfold tx at h;cases a:fu P t with
 |none=>grind|some p=>
  obtain⟨b,k⟩:=p;rw[a] at h;cases b
  ·cases v<;>first|(simp at h;done)|exact .inr ⟨k,rfl,rfl⟩
  ·grind
def AO(w:World){t:TypeId}{b off:Nat}{cs:List AV}{vs:Array Value}{ty:TypeId}{f:Nat×Nat}{z:AV}(l:w.heap[b]?=some (.cells vs ty f))
  (a:gY (jM F ρ) cs vs.toList) (d:∀c∈cs,c.gf=true) (o:mr P t cs off=some z):∃v,(Instr.loadAt t (.pointer (some ⟨b,off,none⟩))).run P w=.ok v w/\gw F ρ z v:=by
 unfold Instr.loadAt;rcases Aw o with⟨k,h,hle,rfl⟩|⟨k,h,i⟩
 ·refine⟨.agg ((vs.toList.drop off).take k).toArray,?_,.agg ((a.drop off).take k) (λc i=>d c (IV (C8 i)))⟩;refine y7 h w ⟨b,off,none⟩ _ (by have:=a.length;simp only[Cy,Xp];omega) ?_;intro j v n;rw[Addr.add_lit,cell_of_row w b _ vs ty f l]
  grind
 ·obtain⟨v,n,q⟩:=a.get i;refine⟨v,?_,.cell q⟩;refine yY h w ⟨b,off,none⟩ v ?_;rw[cell_of_row w b _ vs ty f l];simpa using n
def LZ(h:WR T n B0 ρ F R fr H a w){t:TypeId}{x z:AV}{u:Value}(c:ud P fr H t x=some z)(q:gw F ρ x u):∃v,(Instr.loadAt t u).run P w=.ok v w/\gw F ρ z v:=by
 unfold ud at c
 split at c
 ·rename_i v
  split at c
  ·rename_i C;injection c with c;subst c;obtain⟨b,o,vs,rfl,f,r,s⟩:=EZ q;unfold Instr.loadAt;simp only[Instr.sureAddr,hW,pq,j4];rcases VO C with⟨k,cs,d,rfl,D⟩|⟨k,d,l⟩
   ·refine⟨.agg vs.toArray,?_,.p (.agg f s)⟩;refine y7 d w ⟨b,o,none⟩ vs (by rw[<-f.length];exact D) ?_;intro j v G;rw[Addr.add_lit];exact h.g.FO b _ v (r j v G)
   ·rw[AV.A7 l] at f;cases f with
    |cons f hn=>
     cases hn;rename_i u;refine⟨u,?_,.p f⟩;refine yY d w ⟨b,o,none⟩ u ?_;exact h.g.FO b o u (r 0 u rfl)
  ·cases c
 ·rename_i b g off
  split at c
  ·rename_i hg
   split at c
   ·rename_i cs y;obtain⟨rfl,_⟩:=uH q;obtain⟨f,r,s,vs,ty,A,i⟩:=h.box b cs y;rw[hg];exact AO w A i s c
   ·cases c
  ·cases c
 ·rename_i o off
  split at c
  ·rename_i cs y
   split at c
   ·rename_i B;obtain⟨rfl,_⟩:=uP q;obtain⟨J,A,i⟩:=h.g.lQ o cs y;obtain⟨vs,ty,K,rfl,_,i,I⟩:=i.Hv B;rw[<-h.hn] at i;exact AO w A (i.mono λ_ _ _ h=>.p h) I c
   ·cases c
  ·cases c
 ·cases c
def Vt{w:World}{b j:Nat}{vs:Array Value}{ty:TypeId}{a:Nat×Nat}(d:w.heap[b]?=some (.cells vs ty a))(c:Tr a vs.size)(f:j<vs.size):w.frozen? ⟨b,j,none⟩=false:=by
 unfold World.frozen?;rcases c with h|h
 all_goals grind
theorem r5(P:Program)(b o:Nat)(ty:TypeId)(a:Nat×Nat):∀(us:List Value) (i:Nat) (vs:Array Value) (w:World),w.heap[b]?=some (.cells vs ty a)->Tr a vs.size->o+i+us.length<=vs.size->(∀u∈us,u.oneCell'=true)->(storeCells ⟨b,o,none⟩ us i).run P w=.ok () (w.setRow b (vs.toList.take (o+i)++us++vs.toList.drop (o+i+us.length)).toArray)
 |[],i,vs,w,c,_,_,_=>by
  have e:=setRow_self w b vs ty a c;simp only[storeCells,Bq,DD,GQ,List.take_append_drop,Wh,e];rfl
 |u::us,i,vs,w,c,l,q,n=>by
  simp only[oZ] at q
  have d:o+i<vs.size:=xL
  have r:w.cell? ⟨b,o+i,none⟩=some vs[o+i]:=by
   rw[cell_of_row w b _ vs ty a c];exact akg d
  have hs:(store ((⟨b,o,none⟩:Addr).add i) u).run P w=.ok () (w.setRow b (vs.setIfInBounds (o+i) u)):=by
   rw[Addr.add_lit,run_store P w _ u _ (n u LA),r];simp[Vt c l d,setCell_eq_setRow w b (o+i) vs ty a u c]
  have h:=setRow_heap w b vs (vs.setIfInBounds (o+i) u) ty a c;have ih:=r5 P b o ty a us (i+1) _ _ h (by simpa using l) Xw (λx s=>n x (by simp[s]));rw[storeCells];simp only[hW,hs,j4];rw[ih,setRow_setRow]
  congr 2
  apply E'.1;simp only[akt];apply Xo;intro j;simp only[vY,oZ,List.cons_append]
  have f:∀k,k<=vs.toList.length->(vs.toList.take k).length=k:=λk B=>by rw[Cy];omega
  have t:vs.toList.length=vs.size:=LA
  rcases Nat.lt_trichotomy j (o+i)with hj|hj|hj
  ·grind
  ·grind
  ·have v:∀X:List Value,((vs.toList.set (o+i) u).take (o+(i+1))++X)[j]?=X[j-(o+(i+1))]?:=λX=>by
    have y:((vs.toList.set (o+i) u).take (o+(i+1))).length=o+(i+1):=by rw[Cy,XK];omega
    rw[CD xL,y]
   have A:∀X:List Value,(vs.toList.take (o+i)++u::X)[j]?=X[j-(o+(i+1))]?:=λX=>by
    rw[CD (by rw[f _ xL];omega),f _ xL,show j-(o+i)=(j-(o+(i+1)))+1 by omega,ql]
   rw[v,A];rcases tU (j-(o+(i+1))) us.length with hu|hu
   ·rw[zk hu,zk hu]
   ·rw[CD hu,CD hu,Vz,Vz,Ya xL]
    congr 1
    omega
def yW(w:World){t:TypeId}{b off k:Nat}{bl:Bool}{vs:Array Value}{ty:TypeId}{a:Nat×Nat}{v:Value}(h:w.heap[b]?=some (.cells vs ty a))(d:Tr a vs.size)
  (f:fu P t=some (bl,k)) (i:v.cells.size=k) (c:off+k<=vs.size) (j:∀u∈v.cells.toList,u.oneCell'=true):(Instr.storeAt t (.pointer (some ⟨b,off,none⟩)) v).run P w=.ok () (w.setRow b (vs.toList.take off++v.cells.toList++vs.toList.drop (off+v.cells.toList.length)).toArray):=by
 unfold Instr.storeAt;simp only[Instr.sureAddr,hW,pq];unfold storeVar;simp only[hW,kv f,j4]
 grind[r5]
end
def kM(E:List Nat)(dst:Option Nat)(cells:List AV)(K:Fr->dS->Prop)(fr:Fr)(H:dS):Prop:=
 match dst with
 |some d=>
  if E.contains d then K {fr with env:=gA fr.env d (.eK H.length 0)} (H++[cells.map AV.iV])
  else K {fr with env:=gA fr.env d (.gX d (fr.gen d+1) 0),box:=gA fr.box d (some cells),gen:=gA fr.gen d (fr.gen d+1)} H
 |none=>False
def lZ(P:Program)(t:TypeId)(x v:AV)(K:Fr->dS->Prop)(fr:Fr)(H:dS):Prop:=
 match fu P t with
 |none=>False|some (_,n)=>
  match x with
  |.gX b g off=>
   match fr.box b with
   |some cs=>g=fr.gen b/\v.cells.length=n/\off+n<=cs.length/\eU v=true/\K {fr with box:=gA fr.box b (some (setCells cs off v.cells))} H|none=>False
  |.eK o off=>
   match H[o]?with
   |some cs=>ue cs=true/\v.cells.length=n/\off+n<=cs.length/\eU v=true/\K fr (H.set o (setCells cs off v.norm.cells))|none=>False
  |_=>False
section
variable{P:Program} {T:eA} {n:Nat} {G0:Nat->Nat} {F0:kD} {n0:Nat} {w0:World} {fr:Fr} {H:dS} {a:Act} {w:World}
theorem AV.sq{x:AV}(h:eU x=true):x.norm.cells=x.cells.map AV.iV:=by
 cases x<;>first|rfl|(simp[eU] at h)
theorem xz{cs:List AV}(h:∀c∈cs,c.gf=true):∀c∈cs.map AV.iV,c.gf=true:=by grind[AV.F7]
def jv{F:kD}{ρ:Maps}{cs:List AV}{vs:List Value}(h:gY (jM F ρ) cs vs)(a:∀c∈cs,c.gf=true):∀u∈vs,u.oneCell'=true:=by
 intro u hu;obtain⟨x,b,d⟩:=h.mem hu;exact d.Mx (a x b)
def FG{ρ:Maps}{F:kD}{R:Nat->ou}(h:WR T n w0.heap.size ρ F R fr H a w)(s:Ext w0.heap.size G0 F0 n0 w0 ρ.G F H.length w){E:List Nat}{dst:Option Nat}{cells:List AV}{K:Fr->dS->Prop}
  (k:kM E dst cells K fr H) (u:∀d,dst=some d->d<n) {vs:Array Value} (ty:TypeId) (l:gY (jM F ρ) cells vs.toList) (f:∀c∈cells,c.gf=true):∃fr' H',K fr' H'/\SR T n G0 F0 n0 w0 fr' H' (a.put dst (.pointer (some ⟨w.heap.size,0,none⟩))) (w.alloc (.cells vs ty)):=by
 unfold kM at k
 split at k
 ·rename_i d;have o:=u d rfl;have t:=h.alloc (.cells vs ty);have b:R w.heap.size=.free:=h.lK _ (jy _);have hF:∀j,F w.heap.size j=none:=λj=>h.g.fresh _ j (jy _);have i:(w.alloc (.cells vs ty)).heap[w.heap.size]?=some (.cells vs ty (0,0)):=heap_alloc_new w _
  split at k
  ·obtain⟨ρ',q,hG,r,hw⟩:=t.agu b hF i (l.vS AV.iV λ_ _ _ h=>h.iV) (xz f) o;refine⟨_,_,k,ρ',F,q,hw,?_⟩;rw[qf];exact(s.alloc h.qe _).ag9 hG (by rw[r];exact h.qe)
  ·obtain⟨ρ',q,hG,hw⟩:=t.aev h.qe b hF i l f o;refine⟨_,_,k,ρ',F,q,hw,?_⟩;rw[hG];exact s.alloc h.qe _
 ·exact k.elim
def RB(w:World){t:TypeId}{z:Value}(a:zeroOf P t=some z):(Instr.alloc t true (.tuple #[])).run P w=.ok (.pointer (some ⟨w.heap.size,0,none⟩)) (w.alloc (.cells z.cells t)):=by
 have b:(zeroValue t).run P w=.ok z w:=by
  unfold zeroOf at a;cases hi:P.info? t with
  |none=>rw[hi] at a;cases a
  |some i=>
   rw[hi] at a;simp at a;simp[zeroValue,typeInfo,hi,a]
 unfold Instr.alloc;simp only[hW,b];rfl
theorem BT{v:Value}(h:yB v=true)(a:∀vs,v≠ .tuple vs):(ofValue v).cells=v.cells.toList.map qk/\∀u∈v.cells.toList,u.oneCell'=true:=by
 cases v with
 |agg cs=>
  refine⟨rfl,λu hu=>?_⟩
  have b:cs.all (·.oneCell')=true:=h
  exact Kj.1 b u (xD.1 hu)
 |tuple vs=>grind|_=>
  constructor
  ·rw[F5 rfl];exact AV.A7 (yx _)
  ·simp[Value.cells,Value.oneCell']
def Pj{ρ:Maps}{F:kD}{R:Nat->ou}(h:WR T n w0.heap.size ρ F R fr H a w)(N:Ext w0.heap.size G0 F0 n0 w0 ρ.G F H.length w){t:TypeId}{x v:AV}{O s:Value}{K:Fr->dS->Prop}
  (i:lZ P t x v K fr H) (y:gw F ρ x O) (l:gw F ρ v s):∃fr' H' w',(Instr.storeAt t O s).run P w=.ok () w'/\K fr' H'/\SR T n G0 F0 n0 w0 fr' H' a w':=by
 unfold lZ at i
 split at i
 ·exact i.elim
 ·rename_i bl k Q
  split at i
  ·rename_i b g off
   split at i
   ·rename_i cs A;obtain⟨hg,V,B,f,i⟩:=i;obtain⟨rfl,_⟩:=uH y;obtain⟨W,Y,S,vs,ty,I,r⟩:=h.box b cs A;have d:=l.cells (iI f);have hlen:=d.length
    have u:s.cells.toList.length=s.cells.size:=LA
    have J:cs.length=vs.size:=by simpa using r.length
    have fo:=r.setCells d off;rw[hlen] at fo;rw[hg]
    have j:∀c∈setCells cs off v.cells,c.gf=true:=by
     intro c C;simp only[setCells,tp] at C;rcases C with(hm|hm)|hm
     ·exact S c (C8 hm)
     ·exact l.rW (iI f) c hm
     ·exact S c (IV hm)
    refine⟨_,_,_,yW w I (.inl rfl) Q xL xL (jv d (l.rW (iI f))),i,ρ,F,R,h.ZC A (by simpa using fo) j,N.setRow (.inl W) _⟩
   ·exact i.elim
  ·rename_i o off
   split at i
   ·rename_i cs A;obtain⟨D,V,B,f,i⟩:=i;obtain⟨rfl,X⟩:=uP y;obtain⟨Z,I,r⟩:=h.g.lQ o cs A;obtain⟨vs,ty,fz,rfl,L,r,U⟩:=r.Hv D;have d:=l.cells (iI f);have hlen:=d.length
    have u:s.cells.toList.length=s.cells.size:=LA
    have J:cs.length=vs.size:=by simpa using r.length
    have q:gY (gG F ρ.G ρ.n) v.norm.cells s.cells.toList:=by
     rw[AV.sq f];exact d.vS AV.iV λ_ _ _ h=>h.iV
    rw[<-h.hn] at r;have fo:=r.setCells q off
    have M:v.norm.cells.length=v.cells.length:=by rw[AV.sq f];simp
    rw[M,hlen] at fo
    have j:∀c∈setCells cs off v.norm.cells,c.gf=true:=by
     intro c C;simp only[setCells,tp] at C;rcases C with(hm|hm)|hm
     ·exact U c (C8 hm)
     ·rw[AV.sq f] at hm;exact xz (l.rW (iI f)) c hm
     ·exact U c (IV hm)
    refine⟨_,_,_,yW w I L Q xL xL (jv d (l.rW (iI f))),i,ρ,F,R,h.T4 A D (by simpa using fo) (by simp only[setCells,qf,Cy,Xp];omega) j,?_⟩;rw[XK];exact N.setRow (.inr ⟨o,by rw[<-h.hn];exact X,rfl⟩) _
   ·exact i.elim
  ·exact i.elim
end
end Go.kY
namespace Go.kY
open Go
def n7(P:Program)(t:TypeId):Option (TypeId×Nat):=
 match P.underlying t with
 |some (.slice e)=>
  match P.info? e with
  |some i=>
   match i.zero with
   |some z=>if z.cells.size=i.size/\i.bytes<=256/\0<i.size/\z.cells.toList.all Value.oneCell' then some (e,i.size)else none|none=>none
  |none=>none
 |_=>none
def j0:Nat:=549755813888
section
variable{P:Program}
def m9{t e:TypeId}{sz:Nat}(h:n7 P t=some (e,sz)):∃i z,P.underlying t=some (.slice e)/\P.info? e=some i/\i.zero=some z/\z.cells.size=sz/\i.size=sz/\i.bytes<=256/\0<sz:=by grind[n7]
def fill_flat{sz:Nat}:∀(pv:List Value) (k:Nat) (pre rest:List Value),(∀v∈pv,v.cells.size=sz)->pre.length=k*sz->rest.length=pv.length*sz->Instr.fill (λi=>some (i*sz,sz)) (pre++rest).toArray ((pv.zipIdx k).map λx=>(x.2,x.1))=some (pre++pv.flatMap λv=>v.cells.toList).toArray:=by
 intro pv
 induction pv with
 |nil=>
  intro k pre rest _ _ h;have:rest=[]:=BG (by simpa using h);subst this;simp[Instr.fill]
 |cons v pv ih=>
  intro k pre rest d j h;have l:=d v LA
  have f:v.cells.toList.length=sz:=by simp[l]
  rw[oZ,CQ,abu] at h;have a:=foldl_set v.cells.toList 0 (k*sz) (pre++rest).toArray (by simp only[afR,qf,GQ];omega);simp only[GQ,f] at a
  have n:(pre++rest).toArray.toList.take (k*sz)=pre:=by simp[<-j]
  have o:(pre++rest).toArray.toList.drop (k*sz+sz)=rest.drop sz:=by
   simp only[];rw[afq];rw[Ku xL,p5,<-j]
   congr 1
   omega
  rw[n,o] at a;have c:=ih (k+1) (pre++v.cells.toList) (rest.drop sz) (λu hu=>d u (by simp[hu])) (by rw[qf,j,f,CQ,abu]) (by rw[Xp,h];omega);simp only[List.zipIdx_cons,lN]
  show(if(decide (v.cells.size≠sz)||decide (k*sz+v.cells.size>(pre++rest).toArray.size)) then none
   else Instr.fill (λi=>some (i*sz,sz)) (v.cells.zipIdx.foldl (λcs (x:Value×Nat)=>cs.setIfInBounds (k*sz+x.2) x.1) (pre++rest).toArray) ((pv.zipIdx (k+1)).map λx=>(x.2,x.1)))=_
  rw[dI (by simp only[l,afR,qf];simp;omega),<-ajN,akG]
  have b:List.foldl (λcs (x:Value×Nat)=>cs.setIfInBounds (k*sz+x.2) x.1) (pre++rest).toArray v.cells.toList.zipIdx=(pre++v.cells.toList++rest.drop sz).toArray:=by
   apply E'.1;rw[a]
  rw[b,c];simp[Ju,vY]
end
section
variable{T:eA} {n B0:Nat} {ρ:Maps} {F:kD} {R:Nat->ou} {fr:Fr} {H:dS} {a:Act} {w:World}
def kb(F:kD)(b k:Nat)(vs:List Value):kD:=λa j=>if a=b/\j<k then vs[j]?else F a j
def wu(F:kD)(b:Nat)(vs:List Value):(kb F b vs.length vs).has b 0 vs:=by
 intro i v a;show(if b=b/\0+i<vs.length then vs[0+i]?else F b (0+i))=some v
 grind
def WR.freeze(h:WR T n B0 ρ F R fr H a w){b:Nat}{vs:Array Value}{ty:TypeId}{k:Nat}{us:List Value}(q:R b=.free)(hF:∀j,F b j=none)
  (C:w.heap[b]?=some (.cells vs ty (0,0))) (u:HX vs) (D:∀j v,j<k->us[j]?=some v->vs[j]?=some v):wN F (kb F b k us) ρ ρ/\WR T n B0 ρ (kb F b k us) R fr H a w:=by
 have hold:∀i j v,F i j=some v->kb F b k us i j=some v:=by grind[kb]
 have f:∀i j,i≠b->kb F b k us i j=F i j:=by
  intro i j I;unfold kb;rw[dI (λh=>I h.1)]
 have s:∀G n,GR F (kb F b k us) G G n n:=λG n=>⟨hold,jy _,λ_ _=>rfl⟩;have t:wN F (kb F b k us) ρ ρ:=⟨s _ _,λ_=>jy _,λ_ _ _=>rfl,λ_=>jy _,λ_ _ _=>rfl⟩;refine⟨t,⟨⟨?_,?_,h.g.inj,?_,?_,λg x P=>(h.g.Ct g x P).grow (s _ _),?_⟩,h.size,h.defers,h.env.grow t,h.hn,h.lg,h.ag,?_,?_,?_,h.oa,h.lK,h.qe⟩⟩
 ·intro i j v r;unfold kb at r
  split at r
  ·rename_i Q;obtain⟨rfl,S⟩:=Q;rw[cell_of_row w i j vs ty (0,0) C];exact D j v S r
  ·exact h.g.FO i j v r
 ·intro o cs y;obtain⟨J,A,B⟩:=h.g.lQ o cs y;exact⟨J,A,B.grow (s _ _)⟩
 ·intro o j y K;rw[f]
  ·exact h.g.gF o j y K
  ·rintro rfl;have:=h.oa o y;rw[q] at this;cases this
 ·intro i j l;rw[f]
  ·exact h.g.fresh i j l
  ·rintro rfl;have:=p8 C;omega
 ·intro U i j v r
  by_cases l:i=b
  ·subst l;exact⟨vs,ty,_,C,.inl rfl,u⟩
  ·rw[f _ _ l] at r;exact h.g.row U i j v r
 ·intro d cs V;obtain⟨A,B,M,vs',L,N,O⟩:=h.box d cs V;exact⟨A,B,M,vs',L,N,O.mono λ_ _ _ h=>h.grow t⟩
 ·intro k' m W i c sz X;obtain⟨A,B,M,Y,N,O⟩:=h.tok k' m W i c sz X
  grind
 ·intro i j v r
  by_cases l:i=b
  ·subst l;rw[q];simp
  ·rw[f _ _ l] at r;exact h.qc i j v r
def s0{F:kD}{b k:Nat}{us:List Value}{a j:Nat}(h:a≠b):kb F b k us a j=F a j:=by grind[kb]
end
def na(P:Program)(t n:Nat)(parts:List (Nat×AV)):Option AV:=
 match n7 P t with
 |some (_,sz)=>
  if parts.map (·.1)=List.range n/\parts.all (λp=>p.2.cells.length==sz&&eU p.2)=true/\n*sz<=16777216 then some (.slice .full (parts.map λp=>p.2.norm))else none
 |none=>none
def Gw{α:Type}(parts:List (Nat×α))(n:Nat)(h:parts.map (·.1)=List.range n):parts=(parts.map (·.2)).zipIdx.map λx=>(x.2,x.1):=by
 apply List.ext_getElem
 ·simp
 ·intro i a b
  have c:(parts.map (·.1))[i]?=(List.range n)[i]?:=by rw[h]
  grind
section
variable{P:Program} {T:eA} {n:Nat} {G0:Nat->Nat} {F0:kD} {n0:Nat} {w0:World} {fr:Fr} {H:dS} {a:Act} {w:World}
def G2(w:World){t e:TypeId}{sz:Nat}(h:n7 P t=some (e,sz)):(Instr.buildSlice t 0 #[]).run P w=.ok (.slice (some ⟨w.heap.size,0,none⟩) 0 0) (w.alloc (.cells #[] e)):=by
 obtain⟨i,z,hu,hi,a,_⟩:=m9 h;simp[Instr.buildSlice,run_underlying hu,sizeOf,typeInfo,hi,Instr.fill,newRow]
 grind
def RH{F:kD}{ρ:Maps}:∀{parts:List (Nat×AV)} {pv:List (Nat×Value)},gY (λ(x:Nat×AV) (y:Nat×Value)=>x.1=y.1/\gw F ρ x.2 y.2) parts pv->(∀p∈parts,eU p.2=true)->gY (gG F ρ.G ρ.n) ((parts.map λp=>p.2.norm).flatMap AV.cells) ((pv.map (·.2)).flatMap λv=>v.cells.toList)/\∀c∈(parts.map λp=>p.2.norm).flatMap AV.cells,c.gf=true:=by
 intro parts pv h hn
 induction h with
 |nil=>exact⟨.nil,LA⟩|@cons p q j k d _ ih=>
  obtain⟨i1,i2⟩:=ih λp f=>hn p (by simp[f]);have a:=hn p LA;have i:=d.2.cells (iI a);have l:=d.2.rW (iI a)
  have b:gY (gG F ρ.G ρ.n) p.2.norm.cells q.2.cells.toList:=by
   rw[AV.sq a];exact i.vS AV.iV λ_ _ _ h=>h.iV
  refine⟨?_,?_⟩
  ·exact b.append i1
  ·grind[AV.sq,xz]
def zU{ρ:Maps}{F:kD}(w:World){t k:Nat}{parts:List (Nat×AV)}{pv:List (Nat×Value)}{r:AV}
  (f:na P t k parts=some r) (b:gY (λ(x:Nat×AV) (y:Nat×Value)=>x.1=y.1/\gw F ρ x.2 y.2) parts pv):∃l us e sz,r=.slice .full l/\l.length=k/\k<=maxLen/\(∀x∈l,x.cells.length=sz)/\gY (gG F ρ.G ρ.n) (l.flatMap AV.cells) us/\(∀c∈l.flatMap AV.cells,c.gf=true)/\(Instr.buildSlice t k pv.toArray).run P w=.ok (.slice (some ⟨w.heap.size,0,none⟩) k k) (w.alloc (.cells us.toArray e)):=by
 unfold na at f
 split at f
 ·rename_i e sz C
  split at f
  ·rename_i O;obtain⟨j,D,Q⟩:=O;injection f with f;subst f;obtain⟨i,z,hu,hi,R,S,o,T,h⟩:=m9 C
   have a:∀p∈parts,p.2.cells.length=sz/\eU p.2=true:=by
    intro p B;have:=kE.1 D p B;simpa using this
   have s:parts.length=k:=by have:=congrArg List.length j;simpa using this
   have u:pv.length=k:=by rw[<-b.length];exact s
   have H:pv.map (·.1)=List.range k:=by
    rw[<-j];clear j D a s u
    induction b with
    |nil=>rfl|cons K _ ih=>simp only[lN,ih,K.1]
   have I:=Gw pv k H
   have L:∀v∈pv.map (·.2),v.cells.size=sz:=by
    intro v U;obtain⟨q,V,rfl⟩:=qq.1 U;obtain⟨p,B,W⟩:=b.mem V;have K:=W.2.cells (iI (a p B).2);have:=K.length;rw[(a p B).1] at this;simpa using this.symm
   obtain⟨A,d⟩:=RH b λp B=>(a p B).2
   have J:(Instr.buildSlice t k pv.toArray).run P w=.ok (.slice (some ⟨w.heap.size,0,none⟩) k k) (w.alloc (.cells ((pv.map (·.2)).flatMap λv=>v.cells.toList).toArray e)):=by
    rcases ai1 k with M|hkpos
    ·subst M;have:pv=[]:=BG u;subst this;exact G2 w C
    ·have N:=fill_flat (sz:=sz) (pv.map (·.2)) 0 [] ((Array.range (k*sz)).map (z.cells[· %z.cells.size]!)).toList L LA (by simp[u])
     rw[<-I] at N;simp only[p5,Wh] at N;exact run_buildSlice w t e k pv.toArray _ i z hu hi R (by rw[o];omega) (by rw[o];have:=Nat.mul_pos hkpos h;omega) (by rw[o];exact N)
   refine⟨parts.map λp=>p.2.norm,_,e,sz,rfl,by simp[s],?_,?_,A,d,J⟩
   ·have:k<=k*sz:=ag4 k h;simp only[maxLen];omega
   ·grind[AV.sq]
  ·cases f
 ·cases f
def Ex{ρ:Maps}{F:kD}{R:Nat->ou}(h:WR T n w0.heap.size ρ F R fr H a w)(J:Ext w0.heap.size G0 F0 n0 w0 ρ.G F H.length w){t k:Nat}{parts:List (Nat×AV)}{pv:List (Nat×Value)}{r:AV}
  {dst:Option Nat} (C:na P t k parts=some r) (i:gY (λ(x:Nat×AV) (y:Nat×Value)=>x.1=y.1/\gw F ρ x.2 y.2) parts pv) (K:∀d,dst=some d->d<n):∃v w',(Instr.buildSlice t k pv.toArray).run P w=.ok v w'/\SR T n G0 F0 n0 w0 (fr.put dst r) H (a.put dst v) w':=by
 obtain⟨l,us,e,sz,rfl,D,Du,A,c,f,q⟩:=zU w C i;have s:=heap_alloc_new w (.cells us.toArray e);obtain⟨B,hw⟩:=(h.alloc (.cells us.toArray e)).freeze (us:=us) (k:=us.length) (h.lK _ (jy _)) (λj=>h.g.fresh _ j (jy _)) s (λu hu=>jv (c.mono λ_ _ _ h=>jM.p h) f u (by simpa using hu)) (by intro j v _ L;simpa using L);refine⟨_,_,q,ρ,_,R,hw.put K (x:=.slice .full l) (v:=.slice (some ⟨w.heap.size,0,none⟩) k k) ?_,?_⟩
 ·have I:=gG.slice (F:=kb F w.heap.size us.length us) (G:=ρ.G) (n:=ρ.n) (tag:=.full) (l:=l) (b:=w.heap.size) (o:=0) (base:=some ⟨w.heap.size,0,none⟩) (cap:=l.length) (sz:=sz)
   (.oT (c.mono λ_ _ _ h=>h.grow B.g)) (wu _ _ _) (λ_=>rfl) A f (jy _) (by rw[D];exact Du) (.inr ⟨rfl,rfl⟩)
  rw[D] at I;exact .p I
 ·exact(J.alloc h.qe (.cells us.toArray e)).freeze (F':=kb F w.heap.size us.length us) λb j C=>s0 (by have:=h.qe;omega)
end
def oW(fr:Fr)(tag:Tag)(l:List AV):Bool:=
 match tag with
 |.gx=>false|.full=>true|.loc k g=>g==fr.fa k&&fr.qb k==some l.length
def uv(tag:Tag)(qb:Nat->Option Nat):Nat->Option Nat:=
 match tag with
 |.loc k _=>gA qb k none|_=>qb
def grown(fr:Fr)(d:Nat)(tag:Tag)(l m:List AV):Fr:=
 {fr with env:=gA fr.env d (.slice (.loc d (fr.fa d+1)) (l++m)),qb:=gA (uv tag fr.qb) d (some (l.length+m.length)),fa:=gA fr.fa d (fr.fa d+1)}
def nj(P:Program)(T:eA)(c:Call)(dst:Option Nat)(K:Fr->dS->Prop)(fr:Fr)(H:dS):Prop:=
 match dst,c.args.toList,c.argTypes.toList with
 |some d,[s,x],[t,a]=>
  match n7 P t,ev T fr s,ev T fr x with
  |some (_,sz),.slice tag l,.slice _ m=>
   a=t/\kR sz l=true/\kR sz m=true/\l.length+m.length<=j0/\(if oW fr tag l then K (grown fr d tag l m) H else m=[]/\K (fr.put (some d) (.slice .gx l)) H)
  |_,_,_=>False
 |_,_,_=>False
section
variable{P:Program} {T:eA} {n:Nat} {G0:Nat->Nat} {F0:kD} {n0:Nat} {w0:World} {fr:Fr} {H:dS} {a:Act} {w:World}
def G3(w:World){t e:TypeId}{sz:Nat}(h:n7 P t=some (e,sz))(ty:TypeId)(base:Option Addr)(len cap:Nat)(a:len<=cap)(x:Value)(f:∃b c,x=.slice b 0 c):(Builtin.append_ #[t,t] ty #[.slice base len cap,x]).run P w=.ok (.slice base len cap) w:=by
 obtain⟨i,z,hu,hi,o,j,k,l,d⟩:=m9 h;obtain⟨b,c,rfl⟩:=f;cases b with
 |none=>
  cases base with
  |none=>simp[Builtin.append_,run_underlying hu,sizeOf,typeInfo,hi,Builtin.lenOf,a,Builtin.firstCells]|some n=>simp[Builtin.append_,run_underlying hu,sizeOf,typeInfo,hi,Builtin.lenOf,a,Builtin.firstCells,storeCells]
 |some b=>
  cases base with
  |none=>simp[Builtin.append_,run_underlying hu,sizeOf,typeInfo,hi,Builtin.lenOf,a,Builtin.firstCells,loadCells,loadCellsFrom]|some n=>simp[Builtin.append_,run_underlying hu,sizeOf,typeInfo,hi,Builtin.lenOf,a,Builtin.firstCells,storeCells,loadCells,loadCellsFrom]
theorem xq(w:World)(t ty e n:TypeId)(i:TypeInfo)(o:P.underlying t=some (.slice e))(hi:P.info? e=some i)
  (g b d:Nat) (cur:Array Value) (hg:w.heap[g]?=some (.cells cur n (0,0)))
  (a:Addr) (m c:Nat) (news:List Value) (q:news.length=m*i.size) (f:∀j u,news[j]?=some u->w.cell? (a.add j)=some u) (r:∀u∈news,u.oneCell'=true)
  (h:b+m<=d) (k:b*i.size+news.length<=cur.size):(Builtin.append_ #[t,t] ty #[.slice (some ⟨g,0,none⟩) b d,.slice (some a) m c]).run P w=.ok (.slice (some ⟨g,0,none⟩) (b+m) d) (w.setRow g (cur.toList.take (b*i.size)++news++cur.toList.drop (b*i.size+news.length)).toArray):=by
 have s:=run_firstCells_some (P:=P) w i.size m a m c news q f;have l:=run_storeCells_at P g (b*i.size) n news 0 cur w hg (by simpa using k) r;simp[Builtin.append_,run_underlying o,sizeOf,typeInfo,hi,Builtin.lenOf,h,s,Addr.add_lit,l]
def WR.rename{ρ:Maps}{F:kD}{R:Nat->ou}{B0:Nat}(h:WR T n B0 ρ F R fr H a w){tag:Tag}{l:List AV}{base:Option Addr}{cap d:Nat}(hd:d<n)
  (hp:gG F ρ.G ρ.n (.slice .gx l) (.slice base l.length cap)) (K:tag=.full/\cap=l.length\/∃k g,tag=.loc k g/\g=fr.fa k/\fr.qb k=some l.length/\ub ρ k g l base cap):∃ρ' S,ρ'.G=ρ.G/\ρ'.n=ρ.n/\(∀k g,tag=.loc k g->ρ'.A d (fr.fa d+1)=ρ.A k g)/\ρ'.ag d=fr.fa d+1/\WR T n B0 ρ' F S (grown fr d tag l []) H (a.put (some d) (.slice base l.length cap)) w:=by
 let f:Option (Nat×Nat×Nat):=match tag with|.loc k g=>ρ.A k g|_=>none
 let ρ':Maps:={ρ with A:=r' ρ.A d (fr.fa d+1) f,ag:=gA ρ.ag d (fr.fa d+1)}
 let S:Nat->ou:=match f with|some (b,_,_)=>gA R b (.arr d)|none=>R
 have u:wN F F ρ ρ':=by
  refine⟨.refl,λ_=>jy _,λ_ _ _=>rfl,λk=>?_,λk g hg=>?_⟩
  ·show ρ.ag k<=gA ρ.ag d (fr.fa d+1) k;unfold gA
   split
   ·rename_i U;subst U;rw[h.ag];omega
   ·exact jy _
  ·show r' ρ.A d (fr.fa d+1) f k g=ρ.A k g;unfold r';rw[dI];rintro⟨rfl,rfl⟩;rw[h.ag] at hg;omega
 have i:∀b c sz,f=some (b,c,sz)->∃k g,tag=.loc k g/\g=fr.fa k/\fr.qb k=some l.length/\ρ.A k (fr.fa k)=some (b,c,sz)/\base=some ⟨b,0,none⟩/\cap=c/\∀x∈l,x.cells.length=sz:=by
  intro b c sz q;rcases K with⟨rfl,_⟩|⟨k,g,rfl,rfl,y,M⟩
  ·exact absurd q (by simp[f])
  ·refine⟨k,_,rfl,rfl,y,q,?_⟩;unfold ub at M;have W:ρ.A k (fr.fa k)=some (b,c,sz):=q;rw[W] at M;exact M
 have B:∀I,(∀k,R I≠ .arr k)->S I=R I:=by
  intro I X;show(match f with|some (b,_,_)=>gA R b (.arr d)|none=>R) I=R I;cases q:f with
  |none=>rfl|some p=>
   obtain⟨b,c,sz⟩:=p;obtain⟨k,g,_,_,y,r,_⟩:=i b c sz q;have J:=(h.tok k _ y b c sz r).2.1;simp only[gA];rw[dI];rintro rfl;exact X k J
 have N:ub ρ' d (fr.fa d+1) l base cap:=by grind[ub,r']
 refine⟨ρ',S,rfl,rfl,?_,by show gA ρ.ag d (fr.fa d+1) d=_;simp[gA],⟨⟨h.g.FO,h.g.lQ,h.g.inj,h.g.gF,h.g.fresh,h.g.Ct,h.g.row⟩,by rw[De];exact h.size,by rw[put_defers];exact h.defers,?_,h.hn,h.lg,?_,?_,?_,?_,?_,?_,h.qe⟩⟩
 ·rintro k g rfl;show r' ρ.A d (fr.fa d+1) f d (fr.fa d+1)=ρ.A k g;simp[r',f]
 ·have h0:=(h.env.grow u).put (d:=some d) (by intro C he;injection he with he;subst he;rw[h.size];exact hd) (x:=.slice (.loc d (fr.fa d+1)) l) (v:=.slice base l.length cap)
   (.cell (.loc (hp.grow u.g) (by show _<=gA ρ.ag d (fr.fa d+1) d;simp[gA]) N))
  simp only[grown,Bq];exact h0
 ·intro k;show gA ρ.ag d (fr.fa d+1) k=gA fr.fa d (fr.fa d+1) k;unfold gA
  split
  ·rfl
  ·exact h.ag k
 ·intro C cs Y;obtain⟨h1,h2,h3,vs,ty,h4,h5⟩:=h.box C cs Y;exact⟨h1,by rw[B _ (by intro k;show R (ρ.L C (fr.gen C))≠_;rw[h2];simp)];exact h2,h3,vs,ty,h4,h5.mono λ_ _ _ h=>h.grow u⟩
 ·intro k m s b c sz q;simp only[grown,gA] at s
  by_cases t:k=d
  ·subst t;simp only[if_true,DD,GQ,wc] at s;subst s
   have O:(grown fr k tag l []).fa k=fr.fa k+1:=by simp[grown,gA]
   rw[O] at q
   have V:ρ'.A k (fr.fa k+1)=f:=by show r' ρ.A k (fr.fa k+1) f k (fr.fa k+1)=f;simp[r']
   rw[V] at q;obtain⟨k2,g2,_,_,y,r,ao,aq,ar⟩:=i b c sz q;obtain⟨O,V,Z,ad,P,e5⟩:=h.tok k2 _ y b c sz r;refine⟨O,?_,Z,ad,P,e5⟩;show(match f with|some (b,_,_)=>gA R b (.arr k)|none=>R) b=.arr k;rw[q];simp[gA]
  ·simp only[dI t] at s
   have O:(grown fr d tag l []).fa k=fr.fa k:=by simp[grown,gA,t]
   rw[O] at q
   have V:ρ'.A k (fr.fa k)=ρ.A k (fr.fa k):=by show r' ρ.A d (fr.fa d+1) f k (fr.fa k)=_;simp[r',t]
   rw[V] at q
   have Q:fr.qb k=some m/\∀k2 g2,tag=.loc k2 g2->k≠k2:=by
    unfold uv at s
    split at s
    ·rename_i k2 g2;simp only[gA] at s
     split at s
     ·cases s
     ·rename_i ae;refine⟨s,λk3 g3 he=>?_⟩;injection he with af aw;subst af;exact ae
    ·rename_i ah;exact⟨s,λk3 g3 he=>absurd he (ah k3 g3)⟩
   obtain⟨Z,P,e5,ai,e6,e7⟩:=h.tok k m Q.1 b c sz q;refine⟨Z,?_,e5,ai,e6,e7⟩;show(match f with|some (b,_,_)=>gA R b (.arr d)|none=>R) b=.arr k;cases ak:f with
   |none=>exact P|some p=>
    obtain⟨b3,c3,D⟩:=p;obtain⟨k2,g2,an,_,y,r,_⟩:=i b3 c3 D ak;have J:=(h.tok k2 _ y b3 c3 D r).2.1;simp only[gA];rw[dI]
    ·exact P
    ·rintro rfl;rw[P] at J;injection J with J;exact Q.2 k2 g2 an J
 ·intro b j v hf;intro C;have U:=h.qc b j v hf C;show(match f with|some (b,_,_)=>gA R b (.arr d)|none=>R) b≠ .box C;cases q:f with
  |none=>exact U|some p=>
   obtain⟨b3,c3,D⟩:=p;simp only[gA]
   split
   ·simp
   ·exact U
 ·intro o M;have:=h.oa o M;rw[B _ (by intro k;show R (ρ.G o)≠_;rw[this];simp)];exact this
 ·intro b hb;have:=h.lK b hb;rw[B b (by rw[this];simp)];exact this
end
end Go.kY
namespace Go.kY
open Go
theorem Nq{α:Type}(f:Nat->α)(i:Nat)(x y:α):gA (gA f i x) i y=gA f i y:=by grind[gA]
theorem AA{α:Type}(f:Nat->α)(i j:Nat)(x:α)(h:j≠i):gA f i x j=f j:=by simp[gA,h]
def w8{a:Array Value}(h:∀u∈a.toList,u.oneCell'=true)(b:0<a.size)(k:Nat):∀u∈(Builtin.zeroCells a k).toList,u.oneCell'=true:=by
 intro u hu;unfold Builtin.zeroCells at hu;simp only[PE,qq] at hu;obtain⟨i,_,rfl⟩:=hu;have c:i%a.size<a.size:=acq _ b
 grind
def Ql{P:Program}{t e:TypeId}{sz:Nat}(h:n7 P t=some (e,sz)){i:TypeInfo}{z:Value}(hi:P.info? e=some i)(a:i.zero=some z):∀u∈z.cells.toList,u.oneCell'=true:=by grind[n7]
section
variable{P:Program} {T:eA} {n B0:Nat} {ρ:Maps} {F:kD} {R:Nat->ou} {fr:Fr} {H:dS} {a:Act} {w:World}
def WR.extend(h:WR T n B0 ρ F R fr H a w){d p q b c sz:Nat}{news:List Value}(ht:fr.qb d=some p)(hA:ρ.A d (fr.fa d)=some (b,c,sz))(hq:news.length=q*sz)(L:p+q<=c)(C:∀u∈news,u.oneCell'=true)
  {cur:Array Value} {ty:TypeId} (S:w.heap[b]?=some (.cells cur ty (0,0))):∃F',wN F F' ρ ρ/\(∀f j,f≠b->F' f j=F f j)/\(∀(j:Nat) (v:Value),news[j]?=some v->F' b (p*sz+j)=some v)/\WR T n B0 ρ F' R {fr with qb:=gA fr.qb d (some (p+q))} H a (w.setRow b (cur.toList.take (p*sz)++news++cur.toList.drop (p*sz+news.length)).toArray):=by
 obtain⟨h1,h2,h3,an,⟨vs,s,U,h5,M⟩,h6⟩:=h.tok d p ht b c sz hA;rw[S] at U;injection U with U;injection U with e1 e2;subst e1;subst e2;have V:(p+q)*sz<=c*sz:=J9 _ L;rw[CQ] at V
 have W:p*sz<=cur.toList.length:=Xw
 let F':kD:=λf j=>if f=b/\p*sz<=j/\j<p*sz+news.length then news[j-p*sz]?else F f j
 have hold:∀f j v,F f j=some v->F' f j=some v:=by
  intro f j v r;show(if f=b/\p*sz<=j/\j<p*sz+news.length then news[j-p*sz]?else F f j)=some v;rw[dI]
  ·exact r
  ·rintro⟨rfl,K,_⟩;rw[h6 j K] at r;cases r
 have i:∀f j,f≠b->F' f j=F f j:=by
  intro f j t;show(if f=b/\p*sz<=j/\j<p*sz+news.length then news[j-p*sz]?else F f j)=F f j;rw[dI (λh=>t h.1)]
 have N:∀(j:Nat) (v:Value),news[j]?=some v->F' b (p*sz+j)=some v:=by
  intro j v hv;have K:=(sX.1 hv).1;show(if b=b/\p*sz<=p*sz+j/\p*sz+j<p*sz+news.length then news[p*sz+j-p*sz]?else F b (p*sz+j))=some v;rw[dO ⟨rfl,xL,xL⟩,Nat.add_sub_cancel_left];exact hv
 have D:∀G n,GR F F' G G n n:=λG n=>⟨hold,jy _,λ_ _=>rfl⟩;have I:wN F F' ρ ρ:=⟨D _ _,λ_=>jy _,λ_ _ _=>rfl,λ_=>jy _,λ_ _ _=>rfl⟩
 have y:∀f,R f≠ .arr d->f≠b:=by rintro f l rfl;exact l h2
 have O:HX (cur.toList.take (p*sz)++news++cur.toList.drop (p*sz+news.length)).toArray:=by
  intro u hu;simp only[tp] at hu;rcases hu with(hu|hu)|hu
  ·exact M u (C8 hu)
  ·exact C u hu
  ·exact M u (IV hu)
 have B:=setRow_heap w b cur (cur.toList.take (p*sz)++news++cur.toList.drop (p*sz+news.length)).toArray ty (0,0) S;refine⟨F',I,i,N,⟨⟨?_,?_,h.g.inj,?_,?_,λg x hx=>(h.g.Ct g x hx).grow (D _ _),?_⟩,h.size,h.defers,h.env.grow I,h.hn,h.lg,h.ag,?_,?_,?_,h.oa,?_,by rw[size_setRow];exact h.qe⟩⟩
 ·intro f j v r
  by_cases l:f=b
  ·subst l;rw[cell_of_row _ f j _ ty (0,0) B];simp only[alh];change (if f=f/\p*sz<=j/\j<p*sz+news.length then news[j-p*sz]?else F f j)=some v at r
   split at r
   ·rename_i hc;rw[vY,CD (by rw[Cy];omega),Cy,Xr W,zk xL];exact r
   ·rename_i hc
    have K:j<p*sz:=by
     rcases tU j (p*sz)with h'|h'
     ·exact h'
     ·rw[h6 j h'] at r;cases r
    have:=h.g.FO f j v r;rw[cell_of_row w f j cur ty (0,0) S] at this;rw[vY,zk (by rw[Cy];omega),RQ,dO K];simpa using this
  ·rw[cell_setRow_other _ _ _ _ _ l];rw[i _ _ l] at r;exact h.g.FO f j v r
 ·intro o cs P;obtain⟨X,g1,g2⟩:=h.g.lQ o cs P;refine⟨X,?_,g2.grow (D _ _)⟩;rw[setRow_other]
  ·exact g1
  ·exact y _ (by rw[h.oa o (sX.1 P).1];simp)
 ·intro o j P Y;rw[i]
  ·exact h.g.gF o j P Y
  ·exact y _ (by rw[h.oa o P];simp)
 ·intro f j l;rw[size_setRow] at l;rw[i]
  ·exact h.g.fresh f j l
  ·rintro rfl;have:=p8 S;omega
 ·intro hT f j v r
  by_cases l:f=b
  ·subst l;exact⟨_,ty,_,B,.inl rfl,O⟩
  ·rw[i _ _ l] at r;obtain⟨Z,ad,ae,g1,g2⟩:=h.g.row hT f j v r;exact⟨Z,ad,ae,by rw[setRow_other _ _ _ _ l];exact g1,g2⟩
 ·intro d' cs af;obtain⟨g1,g2,g3,vs',s,g4,g5⟩:=h.box d' cs af;refine⟨g1,g2,g3,vs',s,?_,g5.mono λ_ _ _ h=>h.grow I⟩;rw[setRow_other]
  ·exact g4
  ·exact y _ (by rw[g2];simp)
 ·intro k m Q f c' ah ai;simp only[gA] at Q
  by_cases J:k=d
  ·subst J;simp only[if_true,wc] at Q;subst Q
   grind
  ·simp only[dI J] at Q;obtain⟨g1,g2,g3,ak,⟨vs',s,g4,g5⟩,g6⟩:=h.tok k m Q f c' ah ai;have t:f≠b:=y _ (by rw[g2];simp[J]);refine⟨g1,g2,g3,ak,⟨vs',s,by rw[setRow_other _ _ _ _ t];exact g4,g5⟩,λj K=>?_⟩;rw[i _ _ t];exact g6 j K
 ·intro f j v r
  by_cases l:f=b
  ·subst l;rw[h2];simp
  ·rw[i _ _ l] at r;exact h.qc f j v r
 ·intro f l;rw[size_setRow] at l;exact h.lK f l
def WR.YO(h:WR T n B0 ρ F R fr H a w){b:Nat}{vs:Array Value}{ty:TypeId}{us:List Value}{c sz:Nat}{tag:Tag}{l m:List AV}{d:Nat}(hd:d<n)(hb:B0<=b)(q:R b=.free)
  (hF:∀j,F b j=none) (X:w.heap[b]?=some (.cells vs ty (0,0))) (B:HX vs) (Y:vs.size=c*sz) (Z:0<l.length+m.length) (hp:l.length+m.length<=c) (hc:c<=maxLen) (ak:us.length=(l.length+m.length)*sz)
  (K:∀(j:Nat) (v:Value),us[j]?=some v->vs[j]?=some v) (t:gV F ρ.G ρ.n ((l++m).flatMap AV.cells) us) (M:∀x∈(l++m).flatMap AV.cells,x.gf=true) (N:∀x∈l++m,x.cells.length=sz):∃ρ' O,ρ'.G=ρ.G/\WR T n B0 ρ' (kb F b us.length us) O (grown fr d tag l m) H (a.put (some d) (.slice (some ⟨b,0,none⟩) (l.length+m.length) c)) w:=by
 obtain⟨C,P⟩:=h.freeze (k:=us.length) (us:=us) q hF X B (λj v _ hv=>K j v hv)
 let ρ':Maps:={ρ with A:=r' ρ.A d (fr.fa d+1) (some (b,c,sz)),ag:=gA ρ.ag d (fr.fa d+1)}
 let O:Nat->ou:=gA R b (.arr d)
 have u:wN F (kb F b us.length us) ρ ρ':=by
  refine⟨C.g,λ_=>jy _,λ_ _ _=>rfl,λk=>?_,λk g hg=>?_⟩
  ·show ρ.ag k<=gA ρ.ag d (fr.fa d+1) k;unfold gA
   split
   ·rename_i h';subst h';rw[h.ag];omega
   ·exact jy _
  ·show r' ρ.A d (fr.fa d+1) (some (b,c,sz)) k g=ρ.A k g;unfold r';rw[dI];rintro⟨rfl,rfl⟩;rw[h.ag] at hg;omega
 have D:wN (kb F b us.length us) (kb F b us.length us) ρ ρ':=⟨.refl,u.lg,u.L,u.ag,u.A⟩
 have r:∀f,R f≠ .free->O f=R f:=by
  intro f i;show gA R b (.arr d) f=R f;unfold gA;rw[dI];rintro rfl;exact i q
 have an:∀f,R f≠ .free->f≠b:=by rintro f i rfl;exact i q
 refine⟨ρ',O,rfl,⟨P.g,by rw[De];exact h.size,by rw[put_defers];exact h.defers,?_,h.hn,h.lg,?_,?_,?_,?_,?_,?_,h.qe⟩⟩
 ·have Q:gw (kb F b us.length us) ρ' (.slice (.loc d (fr.fa d+1)) (l++m)) (.slice (some ⟨b,0,none⟩) (l.length+m.length) c):=by
   have hlen:(l++m).length=l.length+m.length:=qf
   have S:=gG.slice (F:=kb F b us.length us) (G:=ρ'.G) (n:=ρ'.n) (tag:=.gx) (l:=l++m) (b:=b) (o:=0) (base:=some ⟨b,0,none⟩) (cap:=c) (sz:=sz)
    (t.grow C.g) (wu F b us) (λ_=>rfl) N M xL hc (.inl rfl)
   rw[hlen] at S;rw[<-hlen];refine .cell (.loc (by rw[hlen];exact S) (by show _<=gA ρ.ag d (fr.fa d+1) d;simp[gA]) ?_);unfold ub
   have e:ρ'.A d (fr.fa d+1)=some (b,c,sz):=by show r' ρ.A d (fr.fa d+1) (some (b,c,sz)) d (fr.fa d+1)=_;simp[r']
   rw[e];exact⟨rfl,rfl,N⟩
  have h1:=(P.env.grow D).put (d:=some d) (by intro U he;injection he with he;subst he;rw[h.size];exact hd) Q;exact h1
 ·intro k;show gA ρ.ag d (fr.fa d+1) k=gA fr.fa d (fr.fa d+1) k;unfold gA
  split
  ·rfl
  ·exact h.ag k
 ·intro U cs ad;obtain⟨h1,h2,h3,vs',ae,h4,h5⟩:=P.box U cs ad;exact⟨h1,by rw[r _ (by show R (ρ.L U (fr.gen U))≠_;rw[h2];simp)];exact h2,h3,vs',ae,h4,h5.mono λ_ _ _ h=>h.grow D⟩
 ·intro k m' s f c' af I;simp only[grown,gA] at s
  by_cases y:k=d
  ·subst y;simp only[if_true,wc] at s;subst s
   have V:(grown fr k tag l m).fa k=fr.fa k+1:=by simp[grown,gA]
   rw[V] at I
   have J:ρ'.A k (fr.fa k+1)=some (b,c,sz):=by show r' ρ.A k (fr.fa k+1) (some (b,c,sz)) k (fr.fa k+1)=_;simp[r']
   rw[J] at I;injection I with I;injection I with V J;injection J with J e3;subst V;subst J;subst e3;refine⟨hb,by show gA R b (.arr k) b=.arr k;simp[gA],⟨Z,hp⟩,hc,⟨vs,ty,X,Y,B⟩,λj hj=>?_⟩;show(if b=b/\j<us.length then us[j]?else F b j)=none;rw[dI xL];exact hF j
  ·simp only[dI y] at s
   have V:(grown fr d tag l m).fa k=fr.fa k:=by simp[grown,gA,y]
   rw[V] at I
   have J:ρ'.A k (fr.fa k)=ρ.A k (fr.fa k):=by show r' ρ.A d (fr.fa d+1) _ k (fr.fa k)=_;simp[r',y]
   rw[J] at I
   have ah:fr.qb k=some m':=by
    unfold uv at s
    split at s
    ·simp only[gA] at s
     split at s
     ·cases s
     ·exact s
    ·exact s
   obtain⟨e3,e4,e5,ai,e6,e7⟩:=P.tok k m' ah f c' af I;exact⟨e3,by rw[r _ (by rw[e4];simp)];exact e4,e5,ai,e6,e7⟩
 ·intro f j v hf
  by_cases i:f=b
  ·subst i;intro U;show gA R f (.arr d) f≠_;simp[gA]
  ·have e:O f=R f:=by show gA R b (.arr d) f=R f;simp[gA,i]
   rw[e];exact P.qc f j v hf
 ·intro o ho;have:=h.oa o ho;rw[r _ (by show R (ρ.G o)≠_;rw[this];simp)];exact this
 ·intro f i
  have W:f≠b:=by rintro rfl;have:=p8 X;omega
  show gA R b (.arr d) f=.free;simp only[gA,dI W];exact h.lK f i
end
section
variable{P:Program} {T:eA} {n:Nat} {G0:Nat->Nat} {F0:kD} {n0:Nat} {w0:World} {fr:Fr} {H:dS} {a:Act} {w:World}
def Fx(w:World){t e:TypeId}{sz:Nat}(o:n7 P t=some (e,sz))(ty:TypeId)(base:Option Addr)(a d:Nat)(f:List Value)(holds:f.length=a*sz)
  (D:base=none->a=0/\d=0) (F:∀l,base=some l->∀j v,f[j]?=some v->w.cell? (l.add j)=some v)
  (l:Addr) (m c:Nat) (news:List Value) (r:news.length=m*sz) (hn:∀j v,news[j]?=some v->w.cell? (l.add j)=some v) (n:d<a+m) (q:a+m<=j0):∃cap rest,a+m<=cap/\cap<=maxLen/\(∀u∈rest,u.oneCell'=true)/\(f++news++rest).length=cap*sz/\(Builtin.append_ #[t,t] ty #[.slice base a d,.slice (some l) m c]).run P w=.ok (.slice (some ⟨w.heap.size,0,none⟩) (a+m) cap) (w.drew.alloc (.cells (f++news++rest).toArray e)):=by
 obtain⟨i,z,hu,hi,s,x,y,A,C⟩:=m9 o;subst y;have k:a+m<=549755813888:=q
 have h:(a+m)*i.bytes<=140737488355328:=by
  have:=VY k A;omega
 have Du:a+m<=maxLen:=by simp only[maxLen];omega
 have B:=grownCap_ge w (a+m) d e;have hle:=grownCap_le_maxLen w (a+m) d e Du;refine⟨grownCap w (a+m) d e,(Builtin.zeroCells z.cells (grownCap w (a+m) d e-(a+m))).toList,B,hle,w8 (Ql o hi s) xL _,?_,?_⟩
 ·simp only[qf,agv,size_zeroCells,x,holds,r,<-CQ]
  congr 1
  omega
 ·have G:(f++news++(Builtin.zeroCells z.cells (grownCap w (a+m) d e-(a+m))).toList).toArray=f.toArray++news.toArray++Builtin.zeroCells z.cells (grownCap w (a+m) d e-(a+m)):=by
   simp
  rw[G];cases base with
  |some b=>
   exact run_append_grow w t ty e i z hu hi s b a d f holds (F b rfl) l m c news r hn n xL (growslice_fits n h)
  |none=>
   obtain⟨rfl,rfl⟩:=D rfl;have:f=[]:=BG (by simpa using holds);subst this;simp only[xR] at n h k|-;have:=run_append_nil (P:=P) w t ty e i z hu hi s l m c news r hn xL xL xL;simpa using this
structure SY (P:Program) (w:World) (t u e:TypeId) (sz k:Nat) (x:Value) (news:List Value) (ty:TypeId):Prop where
 none:k=0->∀(base:Option Addr) (len cap:Nat),len<=cap->(Builtin.append_ #[t,u] ty #[.slice base len cap,x]).run P w=.ok (.slice base len cap) w
 room:0<k->∀(g sLen sCap:Nat) (cur:Array Value) (e':TypeId),w.heap[g]?=some (.cells cur e' (0,0))->sLen+k<=sCap->sLen*sz+news.length<=cur.size->(Builtin.append_ #[t,u] ty #[.slice (some ⟨g,0,.none⟩) sLen sCap,x]).run P w=.ok (.slice (some ⟨g,0,.none⟩) (sLen+k) sCap) (w.setRow g (cur.toList.take (sLen*sz)++news++cur.toList.drop (sLen*sz+news.length)).toArray)
 grow:0<k->∀(base:Option Addr) (sLen sCap:Nat) (olds:List Value),olds.length=sLen*sz->(base=.none->sLen=0/\sCap=0)->(∀ad,base=some ad->∀j v,olds[j]?=some v->w.cell? (ad.add j)=some v)->sCap<sLen+k->sLen+k<=j0->∃cap rest,sLen+k<=cap/\cap<=maxLen/\(∀u∈rest,u.oneCell'=true)/\(olds++news++rest).length=cap*sz/\(Builtin.append_ #[t,u] ty #[.slice base sLen sCap,x]).run P w=.ok (.slice (some ⟨w.heap.size,0,.none⟩) (sLen+k) cap) (w.drew.alloc (.cells (olds++news++rest).toArray e))
def F9{ρ:Maps}{F:kD}{R:Nat->ou}(h:WR T n w0.heap.size ρ F R fr H a w)(hx:Ext w0.heap.size G0 F0 n0 w0 ρ.G F H.length w){d:Nat}{t u e ty:TypeId}{sz:Nat}{K:Fr->dS->Prop}{tag:Tag}{l m:List AV}{sv xv:Value}{B:List Value}
  (aG:n7 P t=some (e,sz)) (aH:gw F ρ (.slice tag l) sv) (aI:kR sz l=true) (src:SY P w t u e sz m.length xv B ty) (r:gV F ρ.G ρ.n (m.flatMap AV.cells) B) (s:∀y∈m.flatMap AV.cells,y.gf=true)
  (N:∀y∈m,y.cells.length=sz) (aq:l.length+m.length<=j0) (O:d<n)
  (hK:if oW fr tag l then K (grown fr d tag l m) H else m=[]/\K (fr.put (some d) (.slice .gx l)) H):∃v w' fr' H',(Builtin.append_ #[t,u] ty #[sv,xv]).run P w=.ok v w'/\K fr' H'/\SR T n G0 F0 n0 w0 fr' H' (a.put (some d) v) w':=by
 obtain⟨base,cap,b,o,aW,vs,aJ,f,ai,ar⟩:=nw aH;rw[aJ];obtain⟨i,z,hu,hi,hz,aX,aY,aZ,aU⟩:=m9 aG;have C:=qT aI f.sz;have D:gG F ρ.G ρ.n (.slice .gx l) (.slice base l.length cap):=.slice f.cells f.has f.base C f.rW f.Bp f.Du (.inl rfl)
 split at hK
 ·rename_i L
  have Q:tag=.full/\cap=l.length\/∃k g,tag=.loc k g/\g=fr.fa k/\fr.qb k=some l.length/\ub ρ k g l base cap:=by
   unfold oW at L
   split at L
   ·cases L
   ·exact .inl ⟨rfl,ai rfl⟩
   ·rename_i k g;simp only[gE,ahW] at L;exact .inr ⟨k,g,rfl,L.1,L.2,(ar k g rfl).2⟩
  by_cases hm:m=[]
  ·subst hm;obtain⟨ρ',R',hG,_,_,_,hw⟩:=h.rename O D Q;refine⟨_,_,_,_,src.none rfl _ _ _ f.Bp,hK,ρ',F,R',?_,by rw[hG];exact hx⟩;exact hw
  ·have S:B.length=m.length*sz:=by rw[<-r.length,oc N]
   have J:vs.length=l.length*sz:=by rw[<-f.cells.length,oc C]
   have U:0<m.length:=V6.2 hm
   by_cases I:l.length+m.length<=cap
   ·--in place
    rcases Q with⟨rfl,hc⟩|⟨k,g,rfl,hg,ht,Z⟩
    ·omega
    ·have M:=Z;unfold ub at M;cases X:ρ.A k g with
     |none=>rw[X] at M;simp only at M;omega
     |some p=>
      obtain⟨b3,c3,x⟩:=p;rw[X] at M;simp only at M;obtain⟨rfl,rfl,aK⟩:=M;rw[hg] at X;obtain⟨t1,t2,t3,a1,⟨cur,aL,t4,t5,a6⟩,t6⟩:=h.tok k _ ht b3 cap x X;have ak:∀u∈B,u.oneCell'=true:=jv (r.rz.mono λ_ _ _ h=>jM.p h) s
      have ae:l≠[]:=by rintro rfl;exact absurd t3.1 LA
      have aw:x=sz:=by
       cases l with
       |nil=>exact absurd rfl ae|cons y ys=>rw[<-aK y LA,C y LA]
      subst aw;obtain⟨ρ',R',hG,ax,ay,az,hw⟩:=h.rename O D (tag:=.loc k g) (.inr ⟨k,g,rfl,hg,ht,Z⟩)
      have an:ρ'.A d ((grown fr d (.loc k g) l []).fa d)=some (b3,cap,x):=by
       have e:(grown fr d (.loc k g) l []).fa d=fr.fa d+1:=by simp[grown,gA]
       rw[e,ay k g rfl,hg];exact X
      have aA:(grown fr d (.loc k g) l []).qb d=some l.length:=by simp[grown,gA]
      obtain⟨F',aB,Y,aC,aM⟩:=hw.extend aA an S I ak t4
      have aN:b=b3/\o=0:=by
       have:=f.base ae;injection this with this;injection this with e1 e2;exact⟨e1.symm,e2.symm⟩
      obtain⟨rfl,rfl⟩:=aN
      have V:=src.room U b l.length cap cur aL t4 I (by
       rw[S,<-CQ,t5];exact J9 _ I)
      have aD:gw F' ρ' (.slice (.loc d (fr.fa d+1)) (l++m)) (.slice (some ⟨b,0,none⟩) (l.length+m.length) cap):=by
       have hlen:(l++m).length=l.length+m.length:=qf
       have aE:F'.has b 0 (vs++B):=by
        intro q v W;rcases tU q vs.length with hq|hq
        ·rw[zk hq] at W;exact aB.g.mF _ _ _ (f.has q v W)
        ·rw[CD hq] at W;have:=aC _ v W;rw[J] at hq this;rw[show l.length*x+(q-l.length*x)=0+q by omega] at this;exact this
       have af:∀y∈l++m,y.cells.length=x:=by
        intro y hy;rcases tp.1 hy with hy|hy
        ·exact C y hy
        ·exact N y hy
       have aO:=gG.slice (F:=F') (G:=ρ'.G) (n:=ρ'.n) (tag:=.gx) (l:=l++m) (b:=b) (o:=0) (base:=some ⟨b,0,none⟩) (cap:=cap) (sz:=x) (vs:=vs++B)
        (by
         rw[Ze,hG,ax];have aF:=aB.g;rw[hG,ax] at aF
         exact(f.cells.append r).grow aF) aE (λ_=>rfl) af (by
         intro y hy;rw[Ze] at hy;rcases tp.1 hy with hy|hy
         ·exact f.rW y hy
         ·exact s y hy) xL f.Du (.inl rfl)
       rw[<-hlen];refine .cell (.loc aO (by rw[az];exact jy _) ?_);unfold ub
       have e:ρ'.A d (fr.fa d+1)=some (b,cap,x):=by rw[ay k g rfl,hg];exact X
       rw[e];exact⟨rfl,rfl,af⟩
      have ah:=aM.put (d:=some d) (λ_ hh=>by cases hh;exact O) aD;refine⟨_,_,_,_,V,hK,ρ',F',R',?_,?_⟩
      ·have e1:({(grown fr d (.loc k g) l [])with qb:=gA (grown fr d (.loc k g) l []).qb d (some (l.length+m.length))}:Fr).put (some d) (.slice (.loc d (fr.fa d+1)) (l++m))=grown fr d (.loc k g) l m:=by
        simp only[grown,Fr.put,Nq]
       have e2:(a.put (some d) (.slice (some ⟨b,0,none⟩) l.length cap)).put (some d) (.slice (some ⟨b,0,none⟩) (l.length+m.length) cap)=a.put (some d) (.slice (some ⟨b,0,none⟩) (l.length+m.length) cap):=by
        simp[Act.put]
       rw[e1,e2] at ah;exact ah
      ·rw[hG];exact(hx.setRow (.inl t1) _).freeze λb' j aP=>Y b' j xL
   ·--a new row
    have aQ:base=none->l.length=0/\cap=0:=by
     rintro rfl
     have ao:l=[]:=by
      rcases ahb l with h'|⟨_,_,h'⟩
      ·exact h'
      ·have:=f.base (by rw[h'];simp);cases this
     subst ao;refine⟨rfl,?_⟩;rcases Q with⟨_,hc⟩|⟨k,g,rfl,hg,ht,Z⟩
     ·simpa using hc
     ·unfold ub at Z;cases X:ρ.A k g with
      |none=>rw[X] at Z;simpa using Z
      |some p=>
       obtain⟨b3,c3,x⟩:=p;rw[X] at Z;cases Z.1
    have aR:∀ad,base=some ad->∀(j:Nat) (v:Value),vs[j]?=some v->w.cell? (ad.add j)=some v:=by
     intro ad aS j v W
     have ao:l≠[]:=by
      rintro rfl;have:vs=[]:=BG (by rw[J];simp);subst this;simp at W
     have:=f.base ao;rw[aS] at this;injection this with this;subst this;rw[Addr.add_lit];exact h.g.FO b _ v (f.has j v W)
    obtain⟨c',rest,r1,r2,r0,r3,V⟩:=src.grow U base l.length cap vs J aQ aR xL aq;have aT:=h.drew.alloc (.cells (vs++B++rest).toArray e);have aV:w.drew.heap.size=w.heap.size:=rfl
    obtain⟨ρ',R',hG,hw⟩:=aT.YO (b:=w.heap.size) (us:=vs++B) (c:=c') (sz:=sz) (tag:=tag) (l:=l) (m:=m) O h.qe (h.lK _ (jy _)) (λj=>h.g.fresh _ j (jy _))
     (heap_alloc_new w.drew _) (by
      intro u hu;simp only[tp] at hu;rcases hu with(hu|hu)|hu
      ·exact jv (f.cells.rz.mono λ_ _ _ h=>jM.p h) f.rW u hu
      ·exact jv (r.rz.mono λ_ _ _ h=>jM.p h) s u hu
      ·exact r0 u hu) (by simpa using r3) xL r1 r2 (by rw[qf,J,S,CQ]) (by
      intro j v W;have hj:=(sX.1 W).1;simp only[alh];rw[zk hj]
      exact W) (by rw[Ze];exact f.cells.append r) (by
      intro y hy;rw[Ze] at hy;rcases tp.1 hy with hy|hy
      ·exact f.rW y hy
      ·exact s y hy) (by
      intro y hy;rcases tp.1 hy with hy|hy
      ·exact C y hy
      ·exact N y hy)
    refine⟨_,_,_,_,V,hK,ρ',_,R',hw,?_⟩;rw[hG];exact((hx.drew.alloc h.qe _).freeze λb' j aP=>s0 (by have:=h.qe;omega))
 ·obtain⟨rfl,hK⟩:=hK;refine⟨_,_,_,_,src.none rfl _ _ _ f.Bp,hK,ρ,F,R,?_,hx⟩;exact h.put (λ_ hh=>by cases hh;exact O) (.p D)
def NU{t e:TypeId}{sz:Nat}(f:n7 P t=some (e,sz))(ty:TypeId){base:Option Addr}{m cap b o:Nat}{news:List Value}(A:0<m->base=some ⟨b,o,none⟩)(B:news.length=m*sz)
  (hn:∀j v,news[j]?=some v->w.cell? ((⟨b,o,none⟩:Addr).add j)=some v) (J:∀u∈news,u.oneCell'=true):SY P w t t e sz m (.slice base m cap) news ty where
 none C a len h D:=G3 w f ty a len h D _ ⟨base,cap,by rw[C]⟩
 room s g c d cur K hg n x:=by
  obtain⟨i,z,hu,hi,L,F,G,H,y⟩:=m9 f
  grind[xq]
 grow s a c d k holds q I r l:=by
  rw[A s];exact Fx w f ty a c d k holds q I ⟨b,o,.none⟩ m cap news B hn r l
def N2{ρ:Maps}{F:kD}{R:Nat->ou}(h:WR T n w0.heap.size ρ F R fr H a w)(U:Ext w0.heap.size G0 F0 n0 w0 ρ.G F H.length w){c:Call}{dst:Option Nat}{ty:TypeId}{K:Fr->dS->Prop}
  (k:nj P T c dst K fr H) (V:∀d,dst=some d->d<n) (r:∀x∈c.args.toList,jk x=true):∃v w' fr' H',(Builtin.append_ c.argTypes ty (c.args.map a.eval)).run P w=.ok v w'/\K fr' H'/\SR T n G0 F0 n0 w0 fr' H' (a.put dst v) w':=by
 unfold nj at k
 split at k
 ·rename_i d s x t W i u;have D:=V d rfl;have X:c.argTypes=#[t,W]:=E'.1 (by rw[u]);have Y:c.args.map a.eval=#[a.eval s,a.eval x]:=E'.1 (by rw[PE,i];rfl);rw[X,Y];have y:=gu h.env h.ie s (r s (by rw[i];simp));have A:=gu h.env h.ie x (r x (by rw[i];simp))
  split at k
  ·rename_i e sz tag l O m B hs I;obtain⟨rfl,J,L,C,k⟩:=k;rw[hs] at y;rw[I] at A;obtain⟨M,Q,S,o2,Z,ad,N,f,_,_⟩:=nw A;have q:=qT L f.sz;rw[N]
   exact F9 h U B y J (NU B ty (b:=S) (o:=o2) (λhp=>f.base (V6.1 hp)) (by rw[<-f.cells.length,oc q]) (λj v hv=>by
    rw[Addr.add_lit]
    exact h.g.FO S _ v (f.has j v hv)) (jv (f.cells.rz.mono λ_ _ _ h=>jM.p h) f.rW)) f.cells f.rW q C D k
  ·exact k.elim
 ·exact k.elim
def oQ(s:ByteArray):List AV:=s.data.toList.map λb=>AV.sc (.int .u8 (b.toNat:Int))
def DL(P:Program)(T:eA)(c:Call)(dst:Option Nat)(K:Fr->dS->Prop)(fr:Fr)(H:dS):Prop:=
 match dst,c.args.toList,c.argTypes.toList with
 |some d,[s,x],[t,a]=>
  match n7 P t,P.underlying a,ev T fr s,ev T fr x with
  |some (_,sz),some .string,.slice tag l,.sc (.string y)=>
   sz=1/\kR 1 l=true/\l.length+y.size<=j0/\(if oW fr tag l then K (grown fr d tag l (oQ y)) H else oQ y=[]/\K (fr.put (some d) (.slice .gx l)) H)
  |_,_,_,_=>False
 |_,_,_=>False
def SG{t u e:TypeId}(j:n7 P t=some (e,1))(d:P.underlying u=some .string)(ty:TypeId)(s:ByteArray):SY P w t u e 1 s.size (.string s) (Lib.strCells s) ty where
 none v base len cap F:=by
  obtain⟨i,z,hu,hi,x,n,k,o,l⟩:=m9 j;have y:=Lib.run_firstCells_string (P:=P) w i.size s;have hn:Lib.strCells s=[]:=BG (by rw[Lib.strCells_length];exact v);rw[v,hn] at y;cases base with
  |none=>simp[Builtin.append_,run_underlying hu,run_underlying d,sizeOf,typeInfo,hi,Builtin.lenOf,v,F,y]|some N=>simp[Builtin.append_,run_underlying hu,run_underlying d,sizeOf,typeInfo,hi,Builtin.lenOf,v,F,y,storeCells]
 room H g a c cur I hg q A:=by
  obtain⟨i,z,hu,hi,x,n,k,o,l⟩:=m9 j;have y:=Lib.run_firstCells_string (P:=P) w 1 s;have B:=run_storeCells_at P g (a*1) I (Lib.strCells s) 0 cur w hg (by simpa using A) (Lib.strCells_oneCell s);simp only[GQ,Nat.mul_one] at B;simp[Builtin.append_,run_underlying hu,run_underlying d,sizeOf,typeInfo,hi,k,Builtin.lenOf,q,y,Addr.add_lit,B]
 grow H base a c f holds J K C D:=by
  obtain⟨i,z,hu,hi,x,n,k,o,l⟩:=m9 j;have r:a+s.size<=549755813888:=D
  have h:(a+s.size)*i.bytes<=140737488355328:=by
   have:=VY r o;omega
  have Du:a+s.size<=maxLen:=by simp only[maxLen];omega
  refine⟨grownCap w (a+s.size) c e,(Builtin.zeroCells z.cells (grownCap w (a+s.size) c e-(a+s.size))).toList,grownCap_ge w (a+s.size) c e,grownCap_le_maxLen w (a+s.size) c e Du,w8 (Ql j hi x) xL _,?_,?_⟩
  ·have:=grownCap_ge w (a+s.size) c e;simp only[qf,agv,size_zeroCells,n,holds,Lib.strCells_length];omega
  ·have L:(f++Lib.strCells s++(Builtin.zeroCells z.cells (grownCap w (a+s.size) c e-(a+s.size))).toList).toArray=f.toArray++(Lib.strCells s).toArray++Builtin.zeroCells z.cells (grownCap w (a+s.size) c e-(a+s.size)):=by
    apply E'.1;simp
   rw[L];cases base with
   |some b=>exact Lib.run_append_grow_string w t u ty e i z hu d hi x b a c f (by rw[k];exact holds) (K b rfl) s C xL (growslice_fits C h)|none=>
    obtain⟨rfl,rfl⟩:=J rfl;have v:f=[]:=BG (by simpa using holds);subst v;have G:=run_append_nil_string (P:=P) w t u ty e i z hu d hi x s xL xL (by rw[xR] at h;omega)
    have M:(s.data.map λb=>Value.int .u8 b.toNat)=(Lib.strCells s).toArray:=by
     apply Array.ext';simp[Lib.strCells]
    rw[M] at G;simpa using G
def BJ(s:ByteArray):(oQ s).flatMap AV.cells=(Lib.strCells s).map AV.sc:=by
 unfold oQ Lib.strCells
 induction s.data.toList with
 |nil=>rfl|cons b l ih=>simp only[lN,Ju,ih];rfl
def vW{F:kD}{G:Nat->Nat}{k:Nat}:∀(L:List Value),(∀v∈L,yk v=true)->gV F G k (L.map AV.sc) L
 |[],_=>.nil|v::L,h=>.cons (.sc (h v LA)) (vW L λx a=>h x (by simp[a]))
def Ko{ρ:Maps}{F:kD}{R:Nat->ou}(h:WR T n w0.heap.size ρ F R fr H a w)(J:Ext w0.heap.size G0 F0 n0 w0 ρ.G F H.length w){c:Call}{dst:Option Nat}{ty:TypeId}{K:Fr->dS->Prop}
  (i:DL P T c dst K fr H) (L:∀d,dst=some d->d<n) (j:∀x∈c.args.toList,jk x=true):∃v w' fr' H',(Builtin.append_ c.argTypes ty (c.args.map a.eval)).run P w=.ok v w'/\K fr' H'/\SR T n G0 F0 n0 w0 fr' H' (a.put dst v) w':=by
 unfold DL at i
 split at i
 ·rename_i d s x t M f k;have C:=L d rfl;have N:c.argTypes=#[t,M]:=E'.1 (by rw[k]);have O:c.args.map a.eval=#[a.eval s,a.eval x]:=E'.1 (by rw[PE,f];rfl);rw[N,O];have o:=gu h.env h.ie s (j s (by rw[f];simp));have q:=gu h.env h.ie x (j x (by rw[f];simp))
  split at i
  ·rename_i e sz tag l y r u hs D;obtain⟨rfl,I,A,i⟩:=i;rw[hs] at o;rw[D] at q;rw[fX q]
   have hlen:(oQ y).length=y.size:=by simp[oQ]
   have Q:gV F ρ.G ρ.n ((oQ y).flatMap AV.cells) (Lib.strCells y):=by
    rw[BJ];refine vW _ λv S=>?_;obtain⟨b,_,rfl⟩:=qq.1 S;rfl
   have U:∀c∈(oQ y).flatMap AV.cells,c.gf=true:=λc B=>by
    rw[BJ] at B;obtain⟨v,_,rfl⟩:=qq.1 B;rfl
   have c3:∀c∈oQ y,c.cells.length=1:=λc B=>by
    obtain⟨b,_,rfl⟩:=qq.1 B;rfl
   exact F9 h J r o I (by rw[hlen];exact SG r u ty y) Q U c3 (by rw[hlen];exact A) C i
  ·exact i.elim
 ·exact i.elim
end
end Go.kY
namespace Go.kY
open Go
def gl(P:Program)(t:TypeId):Option (List AV):=
 match zeroOf P t with
 |some z=>if yB z=true/\eU (ofValue z) then some (ofValue z).cells else none|none=>none
theorem LK{P:Program}{t:TypeId}{cs:List AV}(h:gl P t=some cs):∃z,zeroOf P t=some z/\yB z=true/\eU (ofValue z)=true/\cs=(ofValue z).cells:=by grind[gl]
def yg(fr:Fr)(d:Nat)(cells:List AV)(len cap:Nat):Fr:=
 {fr with env:=gA fr.env d (.v' d (fr.gen d+1) len cap),box:=gA fr.box d (some cells),gen:=gA fr.gen d (fr.gen d+1)}
def xA(n:Nat):List AV:=List.replicate n .undef
def Dn(P:Program)(T:eA)(c:Call)(dst:Option Nat)(K:Fr->dS->Prop)(fr:Fr)(H:dS):Prop:=
 match dst,c.args.toList,c.argTypes.toList with
 |some d,[s,x],[t,f]=>
  match n7 P t,ev T fr x with
  |some (e,sz),.slice _ m=>
   f=t/\kR sz m=true/\(gl P e).isSome=true/\0<m.length/\match ev T fr s with
   |.slice .full l=>kR sz l=true/\l.length+m.length<=j0/\∀cap,l.length+m.length<=cap->K (yg fr d (l.flatMap AV.cells++m.flatMap AV.cells++xA ((cap-(l.length+m.length))*sz)) (l.length+m.length) cap) H|.v' b g len cap=>g=fr.gen b/\len+m.length<=j0/\match fr.box b with
    |some cs=>cs.length=cap*sz/\(len+m.length<=cap->K {fr with env:=gA fr.env d (.v' b g (len+m.length) cap),box:=gA fr.box b (some (setCells cs (len*sz) (m.flatMap AV.cells)))} H)/\(∀a,cap<len+m.length->len+m.length<=a->K (yg fr d (cs.take (len*sz)++m.flatMap AV.cells++xA ((a-(len+m.length))*sz)) (len+m.length) a) H)|none=>False
   |_=>False
  |_,_=>False
 |_,_,_=>False
section
variable{P:Program} {T:eA} {n:Nat} {G0:Nat->Nat} {F0:kD} {n0:Nat} {w0:World} {fr:Fr} {H:dS} {a:Act} {w:World}
def Qg{e:TypeId}(h:(gl P e).isSome=true){i:TypeInfo}{z:Value}(hi:P.info? e=some i)(a:i.zero=some z):∀u∈z.cells.toList,u.oneCell'=true:=by grind[gl,LK,zeroOf,BT,ofValue,eU]
def nP(w:World){t e:TypeId}{sz:Nat}(q:n7 P t=some (e,sz))(r:(gl P e).isSome=true)(ty:TypeId)(base:Option Addr)(a d:Nat)(f:List Value)(holds:f.length=a*sz)
  (F:base=none->a=0/\d=0) (G:∀l,base=some l->∀j v,f[j]?=some v->w.cell? (l.add j)=some v)
  (l:Addr) (m c:Nat) (news:List Value) (C:news.length=m*sz) (hn:∀j v,news[j]?=some v->w.cell? (l.add j)=some v) (n:d<a+m) (o:a+m<=j0):∃cap rest,a+m<=cap/\cap<=maxLen/\rest.length=(cap-(a+m))*sz/\(∀u∈rest,u.oneCell'=true)/\(Builtin.append_ #[t,t] ty #[.slice base a d,.slice (some l) m c]).run P w=.ok (.slice (some ⟨w.heap.size,0,none⟩) (a+m) cap) (w.drew.alloc (.cells (f++news++rest).toArray e)):=by
 obtain⟨i,z,hu,hi,s,x,y,A,D⟩:=m9 q;subst y;have k:a+m<=549755813888:=o
 have h:(a+m)*i.bytes<=140737488355328:=by
  have:=VY k A;omega
 have Du:a+m<=maxLen:=by simp only[maxLen];omega
 have B:=grownCap_ge w (a+m) d e;have hle:=grownCap_le_maxLen w (a+m) d e Du;refine⟨grownCap w (a+m) d e,(Builtin.zeroCells z.cells (grownCap w (a+m) d e-(a+m))).toList,B,hle,?_,w8 (Qg r hi s) xL _,?_⟩
 ·simp only[agv,size_zeroCells,x]
 ·have H:(f++news++(Builtin.zeroCells z.cells (grownCap w (a+m) d e-(a+m))).toList).toArray=f.toArray++news.toArray++Builtin.zeroCells z.cells (grownCap w (a+m) d e-(a+m)):=by
   apply E'.1;simp
  rw[H];cases base with
  |some b=>
   exact run_append_grow w t ty e i z hu hi s b a d f holds (G b rfl) l m c news C hn n xL (growslice_fits n h)
  |none=>
   obtain⟨rfl,rfl⟩:=F rfl;have:f=[]:=BG (by simpa using holds);subst this;simp only[xR] at n h k|-;have:=run_append_nil (P:=P) w t ty e i z hu hi s l m c news C hn xL xL xL;simpa using this
def I'{F:kD}{ρ:Maps}:∀{rest:List Value} {k:Nat},rest.length=k->(∀u∈rest,u.oneCell'=true)->gY (jM F ρ) (xA k) rest
 |[],k,h,_=>by cases h;exact .nil
 |u::rest,k,h,a=>by
  cases h;exact .cons (.p (.undef (a u LA))) (I' rfl λv b=>a v (by simp[b]))
def xg(k:Nat):∀c∈xA k,c.gf=true:=by
 intro c a;rw[List.eq_of_mem_replicate a];rfl
def WR.XW{ρ:Maps}{F:kD}{R:Nat->ou}(h:WR T n w0.heap.size ρ F R fr H a w)(s:Ext w0.heap.size G0 F0 n0 w0 ρ.G F H.length w){d len cap:Nat}(l:d<n){cells:List AV}{vs:Array Value}(ty:TypeId)
  (o:gY (jM F ρ) cells vs.toList) (i:∀c∈cells,c.gf=true) (hlen:len<=cap) (Bp:cap<=maxLen):SR T n G0 F0 n0 w0 (yg fr d cells len cap) H (a.put (some d) (.slice (some ⟨w.heap.size,0,none⟩) len cap)) (w.drew.alloc (.cells vs ty)):=by
 have t:=h.drew.alloc (.cells vs ty);have k:(w.drew.alloc (.cells vs ty)).heap[w.drew.heap.size]?=some (.cells vs ty (0,0)):=heap_alloc_new w.drew _;have u:w.drew.heap.size=w.heap.size:=rfl;have f:R w.drew.heap.size=.free:=h.lK _ (jy _);have hF:∀j,F w.drew.heap.size j=none:=λj=>h.g.fresh _ j (jy _);obtain⟨ρ',y,hG,hw⟩:=t.aev h.qe f hF k o i l;have A:=hw.box d cells (by simp[gA])
 have B:ρ'.L d (fr.gen d+1)=w.heap.size:=by
  have he:=hw.env d
  have q:({fr with env:=gA fr.env d (.gX d (fr.gen d+1) 0),box:=gA fr.box d (some cells),gen:=gA fr.gen d (fr.gen d+1)}:Fr).env d=.gX d (fr.gen d+1) 0:=by simp[gA]
  rw[q,QR a (some d) _ d (by intro C he;injection he with he;subst he;rw[h.size];exact l),dO rfl] at he;have:=(uH he).1;injection this with this;injection this with this;injection this with this;exact this.symm
 have r:fr.gen d+1<=ρ'.lg d:=by
  rw[hw.lg d];simp[gA]
 have n5:=hw.put (d:=some d) (by intro C he;injection he with he;subst he;exact l) (x:=.v' d (fr.gen d+1) len cap) (v:=.slice (some ⟨w.heap.size,0,none⟩) len cap) (by
  have:=jM.v' (F:=F) (ρ:=ρ') (b:=d) (g:=fr.gen d+1) r hlen Bp;rw[B] at this
  exact .cell this)
 refine⟨ρ',F,y,?_,?_⟩
 ·have q:(({fr with env:=gA fr.env d (.gX d (fr.gen d+1) 0),box:=gA fr.box d (some cells),gen:=gA fr.gen d (fr.gen d+1)}:Fr).put (some d) (.v' d (fr.gen d+1) len cap))=yg fr d cells len cap:=by
   simp only[yg,Fr.put,Nq]
  have D:(a.put (some d) (.pointer (some ⟨w.heap.size,0,none⟩))).put (some d) (.slice (some ⟨w.heap.size,0,none⟩) len cap)=a.put (some d) (.slice (some ⟨w.heap.size,0,none⟩) len cap):=by
   simp[Act.put]
  rw[q,D] at n5;exact n5
 ·rw[hG];exact(s.drew).alloc h.qe _
def Kz{ρ:Maps}{F:kD}{R:Nat->ou}(h:WR T n w0.heap.size ρ F R fr H a w)(hx:Ext w0.heap.size G0 F0 n0 w0 ρ.G F H.length w){c:Call}{dst:Option Nat}{ty:TypeId}{K:Fr->dS->Prop}
  (y:Dn P T c dst K fr H) (hd:∀d,dst=some d->d<n) (ar:∀x∈c.args.toList,jk x=true):∃v w' fr' H',(Builtin.append_ c.argTypes ty (c.args.map a.eval)).run P w=.ok v w'/\K fr' H'/\SR T n G0 F0 n0 w0 fr' H' (a.put dst v) w':=by
 unfold Dn at y
 split at y
 ·rename_i d s x t t' A aw;have W:=hd d rfl;have e1:c.argTypes=#[t,t']:=E'.1 (by rw[aw]);have e2:c.args.map a.eval=#[a.eval s,a.eval x]:=E'.1 (by rw[PE,A];rfl);rw[e1,e2];have S:=gu h.env h.ie s (ar s (by rw[A];simp));have ax:=gu h.env h.ie x (ar x (by rw[A];simp))
  split at y
  ·rename_i e sz aT m X aF;obtain⟨rfl,aG,ay,Y,y⟩:=y;rw[aF] at ax;obtain⟨aH,D,b2,o2,aX,k,aI,f,_,_⟩:=nw ax;have hm:m≠[]:=V6.1 Y;have az:=qT aG f.sz;have U:=f.base hm
   have B:∀j v,k[j]?=some v->w.cell? ((⟨b2,o2,none⟩:Addr).add j)=some v:=by
    intro j v Q;rw[Addr.add_lit];exact h.g.FO b2 _ v (f.has j v Q)
   have I:k.length=m.length*sz:=by rw[<-f.cells.length,oc az]
   have J:gY (jM F ρ) (m.flatMap AV.cells) k:=f.cells.rz.mono λ_ _ _ h=>.p h;have Z:∀u∈k,u.oneCell'=true:=jv J f.rW;obtain⟨i,z,hu,hi,hz,aY,ae,aZ,aU⟩:=m9 X;rw[aI,U]
   split at y
   ·--a new row
    rename_i l hs;obtain⟨aJ,M,y⟩:=y;rw[hs] at S;obtain⟨base,cap,b,o,a1,vs,af,C,ah,_⟩:=nw S;rw[af];have Bp:cap=l.length:=ah rfl;have aA:=qT aJ C.sz
    have V:vs.length=l.length*sz:=by rw[<-C.cells.length,oc aA]
    have aK:base=none->l.length=0/\cap=0:=by
     rintro rfl
     have aL:l=[]:=by
      rcases ahb l with h'|⟨_,_,h'⟩
      ·exact h'
      ·have:=C.base (by rw[h'];simp);cases this
     subst aL;exact⟨rfl,Bp⟩
    have ho:∀ad,base=some ad->∀j v,vs[j]?=some v->w.cell? (ad.add j)=some v:=by
     intro ad ai j v Q
     have aB:l≠[]:=by
      rintro rfl;have:vs=[]:=BG (by simpa using V);rw[this] at Q;simp at Q
     have:=C.base aB;rw[ai] at this;obtain rfl:=iq this;rw[Addr.add_lit];exact h.g.FO b _ v (C.has j v Q)
    obtain⟨N,rest,O,ak,an,ao,q⟩:=nP w X ay ty base l.length cap vs V aK ho ⟨b2,o2,none⟩ m.length D k I B xL M;refine⟨_,_,_,_,q,y N O,h.XW hx W e ?_ ?_ O ak⟩
    ·simp only;exact((C.cells.rz.mono λ_ _ _ h=>jM.p h).append J).append (I' an ao)
    ·intro c hc;simp only[tp] at hc;rcases hc with(hc|hc)|hc
     ·exact C.rW c hc
     ·exact f.rW c hc
     ·exact xg _ c hc
   ·--a row of a6 aC own
    rename_i b g len cap hs;obtain⟨hg,M,y⟩:=y;rw[hs] at S;obtain⟨af,aM,aN,aO⟩:=Am S;rw[af]
    split at y
    ·rename_i cs hb;obtain⟨aP,aQ,aR⟩:=y;obtain⟨b1,aS,b3,cur,cty,b4,b5⟩:=h.box b cs hb;rw[<-hg] at b1 aS b4
     have aV:cur.size=cap*sz:=by rw[<-aP];simpa using b5.length.symm
     have hle:len*sz<=cap*sz:=J9 _ aN
     by_cases r:len+m.length<=cap
     ·have aW:len*sz+m.length*sz<=cap*sz:=by rw[<-CQ];exact J9 _ r
      have q:=xq (P:=P) w t' ty e cty i hu hi (ρ.L b g) len cap cur b4 ⟨b2,o2,none⟩ m.length D k (by rw[ae];exact I) B Z r (by rw[ae];omega);rw[ae] at q;have fo:=b5.setCells J (len*sz);have aD:(m.flatMap AV.cells).length=k.length:=J.length
      have aq:∀c∈setCells cs (len*sz) (m.flatMap AV.cells),c.gf=true:=by
       intro c hc;simp only[setCells,tp] at hc;rcases hc with(hm|hm)|hm
       ·exact b3 c (C8 hm)
       ·exact f.rW c hm
       ·exact b3 c (IV hm)
      have aE:=h.ZC hb (vs':=(cur.toList.take (len*sz)++k++cur.toList.drop (len*sz+k.length)).toArray) (by rw[<-aD];simpa[aD] using fo) aq;rw[<-hg] at aE;have n5:=aE.put (d:=some d) (by intro d' he;injection he with he;subst he;exact W) (x:=.v' b g (len+m.length) cap) (v:=.slice (some ⟨ρ.L b g,0,none⟩) (len+m.length) cap) (.cell (.v' aM r aO));refine⟨_,_,_,_,q,aQ r,ρ,F,R,n5,hx.setRow (.inl b1) _⟩
     ·have ho:∀ad,some (⟨ρ.L b g,0,none⟩:Addr)=some ad->∀j v,(cur.toList.take (len*sz))[j]?=some v->w.cell? (ad.add j)=some v:=by
       intro ad ai j v Q;obtain rfl:=iq ai;rw[Addr.add_lit,xR,cell_of_row w _ _ cur cty (0,0) b4];rw[RQ] at Q
       split at Q
       ·simpa using Q
       ·cases Q
      obtain⟨N,rest,O,ak,an,ao,q⟩:=nP w X ay ty (some ⟨ρ.L b g,0,none⟩) len cap (cur.toList.take (len*sz)) Xw (by intro h;cases h) ho ⟨b2,o2,none⟩ m.length D k I B xL M;refine⟨_,_,_,_,q,aR N xL O,h.XW hx W e ?_ ?_ O ak⟩
      ·simp only;exact((b5.take _).append J).append (I' an ao)
      ·intro c hc;simp only[tp] at hc;rcases hc with(hc|hc)|hc
       ·exact b3 c (C8 hc)
       ·exact f.rW c hc
       ·exact xg _ c hc
    ·exact y.elim
   ·exact y.elim
  ·exact y.elim
 ·exact y.elim
end
end Go.kY
namespace Go.kY
open Go Go.MapKept
def Hy:TypeDesc->Value->Bool
 |.bool,.bool _=>true|.int k,.int k' _=>k'==k|.string,.string _=>true|_,_=>false
def Y4:Value->Value->Bool
 |.bool a,.bool b=>a==b|.int _ a,.int _ b=>a==b|.string a,.string b=>a==b|_,_=>false
theorem vm{d:TypeDesc}{v:Value}(h:Hy d v=true):IsKey d v:=by
 unfold Hy at h
 split at h<;>simp_all [IsKey]
def E6{d:TypeDesc}{a b:Value}(c:IsKey d a)(f:IsKey d b):Y4 a b=true↔a=b:=by
 cases d<;>cases a<;>cases b<;>simp_all [IsKey,Y4,bytes_beq]
def mapIdx(ks:List Value)(k:Value):Option Nat:=ks.findIdx? (λx=>Y4 x k)
def AM{d:TypeDesc}{k:Value}(f:IsKey d k):∀{ks:List Value} {j:Nat},(∀x∈ks,IsKey d x)->ks.Nodup->ks[j]?=some k->mapIdx ks k=some j
 |[],j,_,_,h=>by simp at h
 |x::ks,j,a,hn,h=>by
  have b:=a x LA;unfold mapIdx;rw[agl];cases j with
  |zero=>
   simp at h;subst h;rw[dO ((E6 b b).2 rfl)]
  |succ j=>
   simp at h
   have c:x≠k:=by
    rintro rfl;exact(YR.1 hn).1 (H9 h)
   rw[dI (λe=>c ((E6 b f).1 e))];have:=AM f (λy i=>a y (by simp[i])) (YR.1 hn).2 h;unfold mapIdx at this;rw[this];rfl
def AG{d:TypeDesc}{k:Value}(c:IsKey d k):∀{ks:List Value},(∀x∈ks,IsKey d x)->(∀x∈ks,x≠k)->mapIdx ks k=none
 |[],_,_=>rfl|x::ks,a,h=>by
  unfold mapIdx;rw[agl,dI (λe=>h x LA ((E6 (a x LA) c).1 e))];have:=AG c (ks:=ks) (λy b=>a y (by simp[b])) (λy b=>h y (by simp[b]))
  grind[mapIdx]
def PQ(P:Program)(t:TypeId):Option AV:=
 match zeroOf P t with
 |some z=>if yB z=true/\eU (ofValue z) then some (ofValue z).norm else none|none=>none
def uC(P:Program)(H:dS)(t:TypeId)(x i:AV)(ok:Bool):Option AV:=
 match P.underlying t,x,i with
 |some (.map kt e),.nH o,.sc k=>
  match P.underlying kt,H[o]?,PQ P e with
  |some d,some [.tO ks xs],some z=>
   if Hy d k=true/\ks.all (Hy d) then
    match mapIdx ks k with
    |some j=>(xs[j]?).map λv=>if ok then .tuple [v,.sc (.bool true)] else v|none=>some (if ok then .tuple [z,.sc (.bool false)] else z)
   else none
  |_,_,_=>none
 |_,_,_=>none
def Ez(ks:List Value)(xs:List AV)(k:Value)(v:AV):AV:=
 match mapIdx ks k with
 |some j=>.tO ks (xs.set j v)|none=>.tO (ks++[k]) (xs++[v])
def rJ(P:Program)(t:TypeId)(x i v:AV)(K:Fr->dS->Prop)(fr:Fr)(H:dS):Prop:=
 match P.underlying t,x,i with
 |some (.map kt _),.nH o,.sc k=>
  match P.underlying kt,H[o]?with
  |some d,some [.tO ks xs]=>Hy d k=true/\ks.all (Hy d)=true/\K fr (H.set o [Ez ks xs k v.norm])|_,_=>False
 |_,_,_=>False
def JC(dst:Option Nat)(K:Fr->dS->Prop)(fr:Fr)(H:dS):Prop:=K (fr.put dst (.nH H.length)) (H++[[.tO [] []]])
def Jv(P:Program)(t:TypeId)(x:AV)(dst:Option Nat)(K:Fr->dS->Prop)(fr:Fr)(H:dS):Prop:=
 match P.underlying t,x with
 |some (.map _ _),.nH o=>
  match H[o]?with
  |some [.tO ks _]=>K (fr.put dst (.eK H.length 0)) (H++[[.mH o ks.length []]])|_=>False
 |_,_=>False
def Ls(x:AV)(dst:Option Nat)(K:Fr->dS->Prop)(fr:Fr)(H:dS):Prop:=
 match x with
 |.eK i 0=>
  match H[i]?with
  |some [.mH o since seen]=>
   match H[o]?with
   |some [.tO ks xs]=>ks.length=since/\ks.all yk=true/\((∀j,j<ks.length->j∈seen)->K (fr.put dst (.tuple [.sc (.bool false)])) H)/\∀j k v,ks[j]?=some k->xs[j]?=some v->j∉seen->K (fr.put dst (.tuple [.sc (.bool true),.sc k,v])) (H.set i [.mH o since (seen++[j])])|_=>False
  |_=>False
 |_=>False
def E4(x:AV)(H:dS):Option AV:=
 match x with
 |.eK i 0=>
  match H[i]?with
  |some [.mH o since seen]=>
   match H[o]?,seen.getLast? with
   |some [.tO ks xs],some j=>
    match ks[j]?,xs[j]?with
    |some k,some v=>if ks.length=since/\yk k then some (.tuple [.sc k,v])else none|_,_=>none
   |_,_=>none
  |_=>none
 |_=>none
def lG.DU{F:kD}{G:Nat->Nat}{n:Nat}{ks xs a}(h:lG F G n [.tO ks xs] a):∃es clock,a=.map es clock/\es.toList.map (·.key)=ks/\gY (gG F G n) xs (es.toList.map (·.val))/\es.toList.map (·.born)=List.range ks.length/\clock=ks.length/\ks.Nodup:=by
 cases h with
 |cells d c b=>have:=b (.tO ks xs) LA;simp[AV.gf] at this
 |map c b f i j=>grind
def lG.ON{F:kD}{G:Nat->Nat}{n:Nat}{o since seen a}(h:lG F G n [.mH o since seen] a):a=.mapIter (some (G o)) since seen.toArray since/\o<n:=by
 cases h with
 |cells c d b=>have:=b (.mH o since seen) LA;simp[AV.gf] at this
 |iter h=>grind
section
variable{P:Program} {T:eA} {n B0:Nat} {ρ:Maps} {F:kD} {R:Nat->ou} {fr:Fr} {H:dS} {a:Act} {w:World}
def E_{o:Nat}{v:Value}(h:gw F ρ (.nH o) v):v=.map (some (ρ.G o))/\o<ρ.n:=by
 cases h with
 |cell h=>cases h with
  |p h=>cases h with|nH h=>exact⟨rfl,h⟩
def Yu(w:World){t:TypeId}{z:AV}(h:PQ P t=some z):∃v,(zeroValue t).run P w=.ok v w/\gG F ρ.G ρ.n z v:=by
 unfold PQ at h
 split at h
 ·rename_i z0 a
  split at h
  ·rename_i b;injection h with h;subst h;refine⟨z0,?_,(gw.p (yA _ _ _ _ b.1)).norm⟩;unfold zeroOf at a;cases hi:P.info? t with
   |none=>grind|some i=>
    rw[hi] at a;simp at a;simp[zeroValue,typeInfo,hi,a]
  ·cases h
 ·cases h
def T7{d:TypeDesc}{ks:List Value}{es:Array MapEntry}(h:es.toList.map (·.key)=ks)(a:ks.all (Hy d)=true):∀x∈es.toList,IsKey d x.key:=by grind[vm]
def Hw{ks:List Value}{es:Array MapEntry}{j:Nat}{e:MapEntry}(h:es.toList.map (·.key)=ks)(a:es.toList[j]?=some e):ks[j]?=some e.key:=by grind
def Qi(h:WR T n B0 ρ F R fr H a w){t:TypeId}{x i r:AV}{ok:Bool}{Q S:Value}(c:uC P H t x i ok=some r)(J:gw F ρ x Q)(hi:gw F ρ i S):∃v,(Instr.lookup t Q S ok).run P w=.ok v w/\gw F ρ r v:=by
 unfold uC at c
 split at c
 ·rename_i kt e o k hu
  split at c
  ·rename_i d ks xs z G W X
   split at c
   ·rename_i K;obtain⟨rfl,_⟩:=E_ J;obtain rfl:=fX hi;obtain⟨ob,U,Y⟩:=h.g.lQ o _ W;obtain⟨es,clock,rfl,L,V,e3,e4,Z⟩:=Y.DU;rw[<-h.hn] at V;have b:=vm K.1;have q:=T7 L K.2;have u:∀y∈ks,IsKey d y:=λy s=>vm (kE.1 K.2 _ s);obtain⟨M,N,A⟩:=Yu (F:=F) (ρ:=ρ) w X;rcases findNow_spec b es.toList 0 q with⟨f,l⟩|⟨j,I,f,l,O⟩
    ·rw[AG b u (by
      intro y s;rw[<-L] at s;obtain⟨x,J,rfl⟩:=qq.1 s
      exact l x J)] at c
     simp only[wc] at c;subst c;refine⟨if ok then .tuple #[M,.bool false] else M,?_,?_⟩
     ·cases ok<;>simp[Instr.lookup,run_underlying hu,MapKept.run_getObj_map U,run_checkKey G b,run_findKey G f,N,Result.andThen]
     ·cases ok
      ·exact .p A
      ·exact .p (.tuple (vs:=[M,.bool false]) (.cons A (.cons (.sc rfl) .nil)))
    ·have B:=Hw L l;rw[O] at B;rw[AM b u Z B] at c;simp only[acx] at c;obtain⟨y,s,rfl⟩:=c;obtain⟨yv,C,D⟩:=V.get s
     have:yv=I.val:=by
      rw[Co,l] at C;simpa using C.symm
     subst this;simp only[xR] at f;refine⟨if ok then .tuple #[I.val,.bool true] else I.val,?_,?_⟩
     ·cases ok<;>simp[Instr.lookup,run_underlying hu,MapKept.run_getObj_map U,run_checkKey G b,run_findKey G f,Result.andThen]
     ·cases ok
      ·exact .p D
      ·exact .p (.tuple (vs:=[I.val,.bool true]) (.cons D (.cons (.sc rfl) .nil)))
   ·cases c
  ·cases c
 ·cases c
def gY.amT{α β:Type}{R:α->β->Prop}{as:List α}{bs:List β}(h:gY R as bs){a:α}{b:β}(c:R a b)(j:Nat):gY R (as.set j a) (bs.set j b):=by
 induction h generalizing j with
 |nil=>simp;exact .nil|cons d f ih=>cases j with
  |zero=>exact .cons c f|succ j=>exact .cons d (ih j)
def Cu(f:MapEntry->MapEntry){α:Type}(g:MapEntry->α)(es:Array MapEntry)(j:Nat){e:MapEntry}(a:es.toList[j]?=some e):(es.modify j f).toList.map g=(es.toList.map g).set j (g (f e)):=by
 apply Xo
 grind
def P6{α:Type}{l:List α}{j:Nat}{x:α}(h:l[j]?=some x):l.set j x=l:=by
 apply Xo
 grind
def Dx{G0:Nat->Nat}{F0:kD}{n0:Nat}{w0:World}(h:WR T n w0.heap.size ρ F R fr H a w)(S:Ext w0.heap.size G0 F0 n0 w0 ρ.G F H.length w){t:TypeId}{x i v:AV}{xv A B:Value}{K:Fr->dS->Prop}
  (k:rJ P t x i v K fr H) (U:gw F ρ x xv) (V:gw F ρ i A) (D:gw F ρ v B):∃fr' H' w',(Instr.mapUpdate t xv A B).run P w=.ok () w'/\K fr' H'/\SR T n G0 F0 n0 w0 fr' H' a w':=by
 unfold rJ at k
 split at k
 ·rename_i kt e o kk hu
  split at k
  ·rename_i d ks xs O W;obtain⟨X,I,k⟩:=k;obtain⟨rfl,_⟩:=E_ U;obtain rfl:=fX V;obtain⟨ob,J,h2⟩:=h.g.lQ o _ W;obtain⟨es,clock,rfl,C,Y,e3,Z,e5⟩:=h2.DU;have c:=vm X;have r:=T7 C I;have L:∀y∈ks,IsKey d y:=λy Q=>vm (kE.1 I _ Q)
   have hlen:es.toList.length=ks.length:=by rw[<-C];simp
   rw[<-h.hn] at Y
   have fin:∀(l:Obj) (s:List AV),lG F ρ.G ρ.n s l->K fr (H.set o s)->(Instr.mapUpdate t (.map (some (ρ.G o))) A B).run P w=.ok () {w with heap:=w.heap.setIfInBounds (ρ.G o) l}->∃fr' H' w',(Instr.mapUpdate t (.map (some (ρ.G o))) A B).run P w=.ok () w'/\K fr' H'/\SR T n G0 F0 n0 w0 fr' H' a w':=by
    intro l s ad k M;obtain⟨s1,s2⟩:=heap_set (o':=l) J;refine⟨_,_,_,M,k,ρ,F,R,h.ID W LA LA s1 s2 ad,?_⟩;rw[XK];refine S.OZ rfl rfl rfl LA λb hb hn=>s2 b ?_;rintro rfl;exact hn o (sX.1 W).1 rfl
   rcases findNow_spec c es.toList 0 r with⟨q,f⟩|⟨j,e0,q,f,N⟩
   ·rw[Ez,AG c L (by
     intro y Q;rw[<-C] at Q;obtain⟨x,S,rfl⟩:=qq.1 Q
     exact f x S)] at k
    refine fin (.map (es.push {key:=A,val:=B,born:=clock}) (clock+1)) _ (.map ?_ ?_ ?_ ?_ ?_) k ?_
    ·simp[C]
    ·simpa using Y.append (.cons D.norm .nil)
    ·simp[e3,Z,List.range_succ]
    ·simp[Z]
    ·grind
    ·simp[Instr.mapUpdate,run_underlying hu,MapKept.run_getObj_map J,run_checkKey O c,run_findKey O q,run_setObj_map _ J,Result.andThen]
   ·have u:=Hw C f;rw[N] at u;rw[Ez,AM c L e5 u] at k
    have hj:es[j]?=some e0:=by simpa using f
    simp only[xR] at q;refine fin (.map (es.modify j λe=>{e with key:=A,val:=B}) clock) _ (.map ?_ ?_ ?_ Z e5) k ?_
    ·rw[Cu _ _ _ _ f,C,P6 u]
    ·rw[Cu _ _ _ _ f];exact Y.amT D.norm j
    ·rw[Cu _ _ _ _ f,P6 (by rw[Co,f];rfl),e3]
    ·simp[Instr.mapUpdate,run_underlying hu,MapKept.run_getObj_map J,run_checkKey O c,run_findKey O q,hj,N,run_keyThatStays c,run_setObj_map _ J,Result.andThen]
  ·exact k.elim
 ·exact k.elim
def r6{G0:Nat->Nat}{F0:kD}{n0:Nat}{w0:World}(h:WR T n w0.heap.size ρ F R fr H a w)(k:Ext w0.heap.size G0 F0 n0 w0 ρ.G F H.length w){c:Obj}{cs:List AV}(f:lG F ρ.G ρ.n cs c)
  {dst:Option Nat} (l:∀d,dst=some d->d<n) {x:AV} {v:Value} (q:∀ρ':Maps,(∀o,o<H.length->ρ'.G o=ρ.G o)->ρ'.G H.length=w.heap.size->ρ'.n=H.length+1->gG F ρ'.G ρ'.n x v):SR T n G0 F0 n0 w0 (fr.put dst x) (H++[cs]) (a.put dst v) (w.alloc c):=by
 obtain⟨ρ',r,hG,b,i,hw⟩:=(h.alloc c).Mo (h.lK _ (jy _)) (λj=>h.g.fresh _ j (jy _)) (heap_alloc_new w _) f;refine⟨ρ',F,r,hw.put l (.p (q ρ' hG b i)),?_⟩;rw[qf];exact(k.alloc h.qe _).ag9 hG (by rw[b];exact h.qe)
def Ea{G0:Nat->Nat}{F0:kD}{n0:Nat}{w0:World}(h:WR T n w0.heap.size ρ F R fr H a w)(j:Ext w0.heap.size G0 F0 n0 w0 ρ.G F H.length w){t k:Nat}{parts:List (Nat×AV)}{pv:List (Nat×Value)}{tag:Tag}{l:List AV}
  {dst:Option Nat} (q:na P t k parts=some (.slice tag l)) (c:gY (λ(x:Nat×AV) (y:Nat×Value)=>x.1=y.1/\gw F ρ x.2 y.2) parts pv) (r:∀d,dst=some d->d<n):∃v w',(Instr.buildSlice t k pv.toArray).run P w=.ok v w'/\SR T n G0 F0 n0 w0 (fr.put dst (.vj H.length 0 l.length l.length)) (H++[l.flatMap AV.cells]) (a.put dst v) w':=by
 obtain⟨B,us,e,sz,he,C,Du,s,b,f,i⟩:=zU w q c;injection he with _ he;subst he;refine⟨_,_,i,r6 h j (.cells (.inl rfl) (by simpa using b) f) r ?_⟩;intro ρ' hG u A;have:=gG.vj (F:=F) (G:=ρ'.G) (n:=ρ'.n) (o:=H.length) (off:=0) (len:=l.length) (cap:=l.length) (by grind)
 grind
def Ks{G0:Nat->Nat}{F0:kD}{n0:Nat}{w0:World}(h:WR T n w0.heap.size ρ F R fr H a w)(b:Ext w0.heap.size G0 F0 n0 w0 ρ.G F H.length w){t:TypeId}{dst:Option Nat}(c:∀d,dst=some d->d<n):∃v w',(Instr.makeMap t none).run P w=.ok v w'/\SR T n G0 F0 n0 w0 (fr.put dst (.nH H.length)) (H++[[.tO [] []]]) (a.put dst v) w':=by
 refine⟨.map (some w.heap.size),w.alloc (.map #[] 0),by simp[Instr.makeMap],r6 h b (.map LA (by simp;exact .nil) LA rfl LA) c ?_⟩;intro ρ' hG f i;have:=gG.nH (F:=F) (G:=ρ'.G) (n:=ρ'.n) (o:=H.length) (by grind)
 grind
def P3{G0:Nat->Nat}{F0:kD}{n0:Nat}{w0:World}(h:WR T n w0.heap.size ρ F R fr H a w)(j:Ext w0.heap.size G0 F0 n0 w0 ρ.G F H.length w){t:TypeId}{x:AV}{i:Value}{dst:Option Nat}{K:Fr->dS->Prop}
  (b:Jv P t x dst K fr H) (k:∀d,dst=some d->d<n) (c:gw F ρ x i):∃v w' fr' H',(Instr.range t i).run P w=.ok v w'/\K fr' H'/\SR T n G0 F0 n0 w0 fr' H' (a.put dst v) w':=by
 unfold Jv at b
 split at b
 ·rename_i kt e o hu
  split at b
  ·rename_i ks xs l;obtain⟨rfl,f⟩:=E_ c;obtain⟨A,q,r⟩:=h.g.lQ o _ l;obtain⟨es,clock,rfl,B,C,D,s,I⟩:=r.DU;subst s;refine⟨_,_,_,_,run_range_map w t kt e (ρ.G o) es ks.length hu q,b,r6 h j (.iter (seen:=[]) f) k ?_⟩;intro ρ' hG u y;have:=gG.eK (F:=F) (G:=ρ'.G) (n:=ρ'.n) (o:=H.length) (off:=0) (by grind)
   grind
  ·exact b.elim
 ·exact b.elim
def O4{es:Array MapEntry}{k:Nat}(h:es.toList.map (·.born)=List.range k){e:MapEntry}(he:e∈es.toList):e.born<k/\es.toList[e.born]?=some e:=by
 obtain⟨j,a⟩:=abA.1 he
 have b:(es.toList.map (·.born))[j]?=some e.born:=by grind
 grind
def KK(w:World){it m since:Nat}{seen:Array Nat}{es:Array MapEntry}(ty:TypeId)(hit:w.heap[it]?=some (.mapIter (some m) since seen since))(hm:w.heap[m]?=some (.map es since))(r:es.toList.map (·.born)=List.range since):((∀e∈es.toList,e.born∈seen)/\(Instr.next (.pointer (some ⟨it,0,none⟩)) false ty).run P w=.ok (.tuple #[.bool false]) w)\/∃e∈es.toList,e.born∉seen/\∃a,(a=w\/a=w.drew)/\(Instr.next (.pointer (some ⟨it,0,none⟩)) false ty).run P w=.ok (.tuple #[.bool true,e.key,e.val]) {a with heap:=a.heap.setIfInBounds it (.mapIter (some m) since (seen.push e.born) since)}:=by
 have hold:∀x∈es.toList,x.born<since:=λx c=>(O4 r c).1;simp only[Instr.next,getObj,hW,Sem.run,hit,hm,Result.andThen,next_test_false seen es since since hold (jy _),qU,lU]
 have k:∀x,x∈(Array.filter (λe=>!seen.contains e.born) es).toList↔x∈es.toList/\x.born∉seen:=by
  intro x;simp
 generalize Array.filter (λe=>!seen.contains e.born) es=L at k|-;have b:∀x∈L.toList,x.born<since:=λx c=>hold x ((k x).1 c).1;have s:L.filter (λx=>decide (x.born<since))=L:=Array.filter_eq_self.2 (λx c=>by simpa using b x (by simpa using c))
 have t:L.filter (λx=>decide (x.born>=since))=#[]:=by
  rw[Array.filter_eq_empty_iff];intro x c;have:=b x (by simpa using c);simp;omega
 simp only[s,t,Array.append_empty]
 by_cases o:L.size=0
 ·left;have:L=#[]:=afO o;subst this;refine⟨?_,?_⟩
  · grind
  · simp[choose,Sem.run,Question.forced]
 ·right
  have l:L.isEmpty=false:=by simp[Array.isEmpty,o]
  simp only[l,qU,lU,Array.empty_append,Array.size_map]
  have n:∃(j:Nat) (a:World),j<L.size/\(a=w\/a=w.drew)/\(choose (Question.mapNext L.size)).run P w=.ok j a:=by
    by_cases q:L.size<=1
    ·exact⟨0,w,xL,.inl rfl,by simp[choose,Sem.run,Question.forced,q]⟩
    ·exact⟨_,w.drew,acq _ xL,.inr rfl,by
      simp only[choose,Sem.run,Question.forced,oz,q,lU,Question.cut]
      rfl⟩
  obtain⟨j,a,u,d,f⟩:=n;have h:=(k L[j]).1 LA;refine⟨L[j],h.1,h.2,a,d,?_⟩
  have i:a.heap[it]?=some (.mapIter (some m) since seen since):=by
    rcases d with rfl|rfl
    ·exact hit
    ·exact hit
  have fo:∀(o':Obj),(setObj it o').run P a=.ok () {a with heap:=a.heap.setIfInBounds it o'}:=λo'=>by
    simp only[setObj,Sem.run,i]
  simp only[f,Array.getElem?_map,akg u,abJ,hW,fo,Result.andThen];rfl
def RI(h:WR T n B0 ρ F R fr H a w){x r:AV}{G:Value}(b:E4 x H=some r)(u:gw F ρ x G):∃v,(Instr.entry G).run P w=.ok v w/\gw F ρ r v:=by
 unfold E4 at b
 split at b
 ·rename_i i
  split at b
  ·rename_i o since seen hi
   split at b
   ·rename_i ks xs j M N
    split at b
    ·rename_i k v I O
     split at b
     ·rename_i Q;obtain⟨hlen,y⟩:=Q;injection b with b;subst b;obtain⟨rfl,S⟩:=uP u;obtain⟨ob,g1,g2⟩:=h.g.lQ i _ hi;obtain⟨rfl,U⟩:=g2.ON;obtain⟨V,W,X⟩:=h.g.lQ o _ M;obtain⟨es,clock,rfl,J,K,A,L,e5⟩:=X.DU;rw[hlen] at A L;subst L;rw[<-h.hn] at K;obtain⟨Y,f,B⟩:=K.get O
      have C:j<clock:=by rw[<-hlen];exact(sX.1 I).1
      have l:j<es.toList.length:=by
       have:(es.toList.map (·.key)).length=ks.length:=by rw[J]
       simp only[Qc] at this;omega
      have c:es.toList[j]?=some es.toList[j]:=qp l
      have Z:es.toList[j].born=j:=by
       have q:(es.toList.map (·.born))[j]?=some es.toList[j].born:=by rw[Co,c];rfl
       rw[A,akO C] at q;exact(iq q).symm
      have s:es.toList[j].key=k:=by
       have q:=Hw J c;rw[I] at q;exact(iq q).symm
      have t:es.toList[j].val=Y:=by
       rw[Co,c] at f;exact iq f
      have hf:es.find? (·.born==j)=some es.toList[j]:=by
       rw[<-Array.find?_toList]
       have D:(es.toList.map (·.born)).Nodup:=by rw[A];exact List.nodup_range
       have:=find_born es.toList[j] es.toList D (D9 l);rw[Z] at this;exact this
      have d:seen.toArray.back?=some j:=by
       rw[<-N];simp
      refine⟨.tuple #[es.toList[j].key,es.toList[j].val],?_,.p (.tuple (vs:=[es.toList[j].key,es.toList[j].val]) (.cons (by rw[s];exact .sc y) (.cons (by rw[t];exact B) .nil)))⟩;simp only[Instr.entry,getObj,hW,Sem.run,g1,W,Result.andThen,d,bne_self_eq_false,qU,lU,hf];rfl
     ·cases b
    ·cases b
   ·cases b
  ·cases b
 ·cases b
def Rt{G0:Nat->Nat}{F0:kD}{n0:Nat}{w0:World}(h:WR T n w0.heap.size ρ F R fr H a w)(A:Ext w0.heap.size G0 F0 n0 w0 ρ.G F H.length w){x:AV}{Y:Value}{dst:Option Nat}{K:Fr->dS->Prop}(ty:TypeId)
  (f:Ls x dst K fr H) (Z:∀d,dst=some d->d<n) (B:gw F ρ x Y):∃v w' fr' H',(Instr.next Y false ty).run P w=.ok v w'/\K fr' H'/\SR T n G0 F0 n0 w0 fr' H' (a.put dst v) w':=by
 unfold Ls at f
 split at f
 ·rename_i i
  split at f
  ·rename_i o since seen hi
   split at f
   ·rename_i ks xs ho;obtain⟨hlen,C,D,I⟩:=f;obtain⟨rfl,ad⟩:=uP B;obtain⟨ob,g1,g2⟩:=h.g.lQ i _ hi;obtain⟨rfl,J⟩:=g2.ON;obtain⟨ae,h1,h2⟩:=h.g.lQ o _ ho;obtain⟨es,clock,rfl,e1,L,y,e4,e5⟩:=h2.DU;rw[hlen] at y e4;subst e4;rw[<-h.hn] at L
    have af:es.toList.length=ks.length:=by rw[<-e1];simp
    rcases KK (P:=P) w ty g1 h1 y with⟨l,c⟩|⟨e,he,M,N,k,c⟩
    ·refine⟨_,_,_,_,c,D ?_,ρ,F,R,h.put Z (.p (.tuple (vs:=[.bool false]) (.cons (.sc rfl) .nil))),A⟩;intro j hj
     have q:j<es.toList.length:=xL
     have hm:=l es.toList[j] (D9 q)
     have O:(es.toList.map (·.born))[j]?=some es.toList[j].born:=by rw[Co,qp q];rfl
     rw[y,akO xL] at O
     have:j=es.toList[j].born:=by simpa using O
     rw[this];simpa using hm
    ·obtain⟨b1,Q⟩:=O4 y he;have hk:ks[e.born]?=some e.key:=Hw e1 Q
     have S:(es.toList.map (·.val))[e.born]?=some e.val:=by rw[Co,Q];rfl
     have ah:xs.length=es.toList.length:=by have:=L.length;simpa using this
     obtain⟨v,hv⟩:∃v,xs[e.born]?=some v:=⟨_,qp (by have:=(sX.1 Q).1;omega)⟩;obtain⟨vv,r,U⟩:=L.get hv
     have:vv=e.val:=by rw[S] at r;simpa using r.symm
     subst this;have s:yk e.key=true:=kE.1 C _ (H9 hk);have V:=I e.born e.key v hk hv (by simpa using M)
     have t:WR T n w0.heap.size ρ F R fr H a N:=by
      rcases k with rfl|rfl
      ·exact h
      ·exact h.drew
     have u:Ext w0.heap.size G0 F0 n0 w0 ρ.G F H.length N:=by
      rcases k with rfl|rfl
      ·exact A
      ·exact A.drew
     have W:N.heap[ρ.G i]?=some (.mapIter (some (ρ.G o)) clock seen.toArray clock):=by
      rcases k with rfl|rfl
      ·exact g1
      ·exact g1
     obtain⟨s1,s2⟩:=heap_set (o':=.mapIter (some (ρ.G o)) clock (seen.toArray.push e.born) clock) W
     have X:lG F ρ.G ρ.n [.mH o clock (seen++[e.born])] (.mapIter (some (ρ.G o)) clock (seen.toArray.push e.born) clock):=by
      have:=lG.iter (F:=F) (G:=ρ.G) (n:=ρ.n) (o:=o) (since:=clock) (seen:=seen++[e.born]) (by rw[h.hn];exact J);simpa using this
     refine⟨_,_,_,_,c,V,ρ,F,R,(t.ID hi LA LA s1 s2 X).put Z (.p (.tuple (vs:=[.bool true,e.key,e.val]) (.cons (.sc rfl) (.cons (.sc s) (.cons U .nil))))),?_⟩;rw[XK];refine u.OZ rfl rfl rfl LA λb O hn=>s2 b ?_;rintro rfl;exact hn i (sX.1 hi).1 rfl
   ·exact f.elim
  ·exact f.elim
 ·exact f.elim
end
end Go.kY
