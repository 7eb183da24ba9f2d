/- Part of the proof of SchemeLists: layer. -/
import Derived.Great.BuildSlice
import Derived.Lib.AppendStr
import Derived.MapKept
import Derived.Laws.IdiomRangeMap
import Derived.Test.YtpgdkkomegalnaaGreatDoorLL3
set_option linter.all false
namespace Go.kY
open Go
section
variable{B:Nat} {G G':Nat->Nat} {F F':kM} {n:Nat} {G0:Nat->Nat} {F0:kM} {n0:Nat} {w0 w w':World}
def Ext.NC(h:Ext B G0 F0 n0 w0 G F n w)(a:w'.os=w.os)(c:w'.tape=w.tape)(d:w'.output=w.output)(hs:w.heap.size<=w'.heap.size)
  (f:∀b,b<B->(∀o,o<n->G o≠b)->w'.heap[b]?=w.heap[b]?):Ext B G0 F0 n0 w0 G F n w':=
 h.trans ⟨a,c,d,hs,gY _,λ_ _=>rfl,λ_ h i=>absurd i VW,λ_ _ _ _=>rfl,λ_ _ _ _ h=>h,f⟩
def Ext.drew(h:Ext B G0 F0 n0 w0 G F n w):Ext B G0 F0 n0 w0 G F n w.drew:=h.NC rfl rfl rfl (gY _) λ_ _ _=>rfl
def Ext.alloc(h:Ext B G0 F0 n0 w0 G F n w)(a:B<=w.heap.size)(o:Obj):Ext B G0 F0 n0 w0 G F n (w.alloc o):=
 h.NC rfl rfl rfl aa2 λb c _=>heap_alloc_old w o VW
def Ext.setRow(h:Ext B G0 F0 n0 w0 G F n w){g:Nat}(hg:B<=g\/∃o,o<n/\G o=g)(cs:Array Value):Ext B G0 F0 n0 w0 G F n (w.setRow g cs):=
 h.NC rfl rfl rfl (by rw[size_setRow];exact gY _) λb c hn=>setRow_other w g b cs (by
  rintro rfl;rcases hg with hg|⟨o,a,hg⟩
  ·omega
  ·exact hn o a hg)
def Ext.freeze(h:Ext B G0 F0 n0 w0 G F n w)(hF:∀b j,b<B->F' b j=F b j):Ext B G0 F0 n0 w0 G F' n w:=
 h.trans ⟨rfl,rfl,rfl,gY _,gY _,λ_ _=>rfl,λ_ h c=>absurd c VW,λb j a _=>hF b j a,λb j v a d=>(hF b j a).trans d,λ_ _ _=>rfl⟩
def Ext.adY(h:Ext B G0 F0 n0 w0 G F n w)(hG:∀o,o<n->G' o=G o)(hn:B<=G' n):Ext B G0 F0 n0 w0 G' F (n+1) w:=
 h.trans ⟨rfl,rfl,rfl,gY _,VW,hG,λo a b=>(by rw[show o=n from VW];exact hn),λ_ _ _ _=>rfl,λ_ _ _ _ h=>h,λ_ _ _=>rfl⟩
end
def SR(T:eN)(n:Nat)(G0:Nat->Nat)(F0:kM)(n0:Nat)(w0:World)(fr:Fr)(H:dY)(a:Act)(w:World):Prop:=
 ∃ρ F R,WR T n w0.heap.size ρ F R fr H a w/\Ext w0.heap.size G0 F0 n0 w0 ρ.G F H.length w
def vq(P:Program)(fr:Fr)(H:dY)(t:TypeId)(x:AV):Option AV:=
 match x with
 |.mj v=>if ux P t v then some v else none|.h9 b g off=>if g=fr.gen b then(match fr.box b with|some cs=>mq P t cs off|none=>none)else none
 |.fb o off=>match H[o]?with|some cs=>if vj cs then mq P t cs off else none|none=>none
 |_=>none
section
variable{P:Program} {T:eN} {n B0:Nat} {ρ:Maps} {F:kM} {R:Nat->ou} {fr:Fr} {H:dY} {a:Act} {w:World}
def Up{t:TypeId}{v:AV}(h:ux P t v=true):(∃k cs,fY P t=some (true,k)/\v=.agg cs/\cs.length=k)\/(∃k,fY P t=some (false,k)/\v.gL=true):=by
 unfold ux at h;cases a:fY P t with
 |none=>grind|some p=>
  obtain⟨b,k⟩:=p;rw[a] at h;cases b
  ·cases v<;>first|(simp at h;done)|exact .inr ⟨k,rfl,rfl⟩
  ·grind
def Az(w:World){t:TypeId}{b off:Nat}{cs:List AV}{vs:Array Value}{ty:TypeId}{f:Nat×Nat}{z:AV}(l:w.heap[b]?=some (.cells vs ty f))
  (a:hQ (jN F ρ) cs vs.toList) (d:∀c∈cs,c.gL=true) (o:mq P t cs off=some z):∃v,(Instr.loadAt t (.pointer (some ⟨b,off,none⟩))).run P w=.ok v w/\gG F ρ z v:=by
 unfold Instr.loadAt;rcases AX o with⟨k,h,hle,rfl⟩|⟨k,h,i⟩
 ·refine⟨.agg ((vs.toList.drop off).take k).toArray,?_,.agg ((a.drop off).take k) (λc i=>d c (Fj (Db i)))⟩;refine zI h w ⟨b,off,none⟩ _ (by have:=a.length;simp only[Dj,ON];omega) ?_;intro j v n;rw[Addr.add_lit,cell_of_row w b _ vs ty f l]
  grind
 ·obtain⟨v,n,q⟩:=a.get i;refine⟨v,?_,.cell q⟩;refine zZ h w ⟨b,off,none⟩ v ?_;rw[cell_of_row w b _ vs ty f l];simpa using n
def Lr(h:WR T n B0 ρ F R fr H a w){t:TypeId}{x z:AV}{u:Value}(c:vq P fr H t x=some z)(q:gG F ρ x u):∃v,(Instr.loadAt t u).run P w=.ok v w/\gG F ρ z v:=by
 unfold vq at c
 split at c
 ·rename_i v
  split at c
  ·rename_i C;injection c with c;subst c;obtain⟨b,o,vs,rfl,f,r,s⟩:=F6 q;unfold Instr.loadAt;simp only[Instr.sureAddr,h7,pP,j8];rcases Up C with⟨k,cs,d,rfl,D⟩|⟨k,d,l⟩
   ·refine⟨.agg vs.toArray,?_,.p (.agg f s)⟩;refine zI d w ⟨b,o,none⟩ vs (by rw[<-f.length];exact D) ?_;intro j v G;rw[Addr.add_lit];exact h.g.GK b _ v (r j v G)
   ·rw[AV.BK l] at f;cases f with
    |cons f hn=>
     cases hn;rename_i u;refine⟨u,?_,.p f⟩;refine zZ d w ⟨b,o,none⟩ u ?_;exact h.g.GK b o u (r 0 u rfl)
  ·cases c
 ·rename_i b g off
  split at c
  ·rename_i hg
   split at c
   ·rename_i cs y;obtain⟨rfl,_⟩:=vM q;obtain⟨f,r,s,vs,ty,A,i⟩:=h.box b cs y;rw[hg];exact Az w A i s c
   ·cases c
  ·cases c
 ·rename_i o off
  split at c
  ·rename_i cs y
   split at c
   ·rename_i B;obtain⟨rfl,_⟩:=vL q;obtain⟨J,A,i⟩:=h.g.lK o cs y;obtain⟨vs,ty,K,rfl,_,i,I⟩:=i.HV B;rw[<-h.hn] at i;exact Az w A (i.mono λ_ _ _ h=>.p h) I c
   ·cases c
  ·cases c
 ·cases c
def Uw{w:World}{b j:Nat}{vs:Array Value}{ty:TypeId}{a:Nat×Nat}(d:w.heap[b]?=some (.cells vs ty a))(c:Rk a vs.size)(f:j<vs.size):w.frozen? ⟨b,j,none⟩=false:=by
 unfold World.frozen?;rcases c with h|h
 all_goals grind
theorem sN(P:Program)(b o:Nat)(ty:TypeId)(a:Nat×Nat):∀(us:List Value) (i:Nat) (vs:Array Value) (w:World),w.heap[b]?=some (.cells vs ty a)->Rk a vs.size->o+i+us.length<=vs.size->(∀u∈us,u.oneCell'=true)->(storeCells ⟨b,o,none⟩ us i).run P w=.ok () (w.setRow b (vs.toList.take (o+i)++us++vs.toList.drop (o+i+us.length)).toArray)
 |[],i,vs,w,c,_,_,_=>by
  have e:=setRow_self w b vs ty a c;simp only[storeCells,Ac,B4,F2,List.take_append_drop,Ua,e];rfl
 |u::us,i,vs,w,c,l,q,n=>by
  simp only[mz] at q
  have d:o+i<vs.size:=VW
  have r:w.cell? ⟨b,o+i,none⟩=some vs[o+i]:=by
   rw[cell_of_row w b _ vs ty a c];exact ahn d
  have hs:(store ((⟨b,o,none⟩:Addr).add i) u).run P w=.ok () (w.setRow b (vs.setIfInBounds (o+i) u)):=by
   rw[Addr.add_lit,run_store P w _ u _ (n u aa2),r];simp[Uw c l d,setCell_eq_setRow w b (o+i) vs ty a u c]
  have h:=setRow_heap w b vs (vs.setIfInBounds (o+i) u) ty a c;have ih:=sN P b o ty a us (i+1) _ _ h (by simpa using l) acx (λx s=>n x (by simp[s]));rw[storeCells];simp only[h7,hs,j8];rw[ih,setRow_setRow]
  congr 2
  apply F7.1;simp only[ahM];apply XM;intro j;simp only[th,mz,aeX]
  have f:∀k,k<=vs.toList.length->(vs.toList.take k).length=k:=λk B=>by rw[Dj];omega
  have t:vs.toList.length=vs.size:=aa2
  rcases Nat.lt_trichotomy j (o+i)with hj|hj|hj
  ·grind
  ·grind
  ·have v:∀X:List Value,((vs.toList.set (o+i) u).take (o+(i+1))++X)[j]?=X[j-(o+(i+1))]?:=λX=>by
    have y:((vs.toList.set (o+i) u).take (o+(i+1))).length=o+(i+1):=by rw[Dj,XW];omega
    rw[tE VW,y]
   have A:∀X:List Value,(vs.toList.take (o+i)++u::X)[j]?=X[j-(o+(i+1))]?:=λX=>by
    rw[tE (by rw[f _ VW];omega),f _ VW,show j-(o+i)=(j-(o+(i+1)))+1 by omega,rq]
   rw[v,A];rcases vh (j-(o+(i+1))) us.length with hu|hu
   ·rw[vE hu,vE hu]
   ·rw[tE hu,tE hu,U5,U5,Wq VW]
    congr 1
    omega
def zJ(w:World){t:TypeId}{b off k:Nat}{bl:Bool}{vs:Array Value}{ty:TypeId}{a:Nat×Nat}{v:Value}(h:w.heap[b]?=some (.cells vs ty a))(d:Rk a vs.size)
  (f:fY P t=some (bl,k)) (i:v.cells.size=k) (c:off+k<=vs.size) (j:∀u∈v.cells.toList,u.oneCell'=true):(Instr.storeAt t (.pointer (some ⟨b,off,none⟩)) v).run P w=.ok () (w.setRow b (vs.toList.take off++v.cells.toList++vs.toList.drop (off+v.cells.toList.length)).toArray):=by
 unfold Instr.storeAt;simp only[Instr.sureAddr,h7,pP];unfold storeVar;simp only[h7,kI f,j8]
 grind[sN]
end
def kW(E:List Nat)(dst:Option Nat)(cells:List AV)(K:Fr->dY->Prop)(fr:Fr)(H:dY):Prop:=
 match dst with
 |some d=>
  if E.contains d then K {fr with env:=gK fr.env d (.fb H.length 0)} (H++[cells.map AV.kg])
  else K {fr with env:=gK fr.env d (.h9 d (fr.gen d+1) 0),box:=gK fr.box d (some cells),gen:=gK fr.gen d (fr.gen d+1)} H
 |none=>False
def lP(P:Program)(t:TypeId)(x v:AV)(K:Fr->dY->Prop)(fr:Fr)(H:dY):Prop:=
 match fY P t with
 |none=>False|some (_,n)=>
  match x with
  |.h9 b g off=>
   match fr.box b with
   |some cs=>g=fr.gen b/\v.cells.length=n/\off+n<=cs.length/\fw v=true/\K {fr with box:=gK fr.box b (some (setCells cs off v.cells))} H|none=>False
  |.fb o off=>
   match H[o]?with
   |some cs=>vj cs=true/\v.cells.length=n/\off+n<=cs.length/\fw v=true/\K fr (H.set o (setCells cs off v.norm.cells))|none=>False
  |_=>False
section
variable{P:Program} {T:eN} {n:Nat} {G0:Nat->Nat} {F0:kM} {n0:Nat} {w0:World} {fr:Fr} {H:dY} {a:Act} {w:World}
theorem AV.tv{x:AV}(h:fw x=true):x.norm.cells=x.cells.map AV.kg:=by
 cases x<;>first|rfl|(simp[fw] at h)
theorem yh{cs:List AV}(h:∀c∈cs,c.gL=true):∀c∈cs.map AV.kg,c.gL=true:=by grind[AV.Gr]
def jD{F:kM}{ρ:Maps}{cs:List AV}{vs:List Value}(h:hQ (jN F ρ) cs vs)(a:∀c∈cs,c.gL=true):∀u∈vs,u.oneCell'=true:=by
 intro u hu;obtain⟨x,b,d⟩:=h.mem hu;exact d.LX (a x b)
def Gw{ρ:Maps}{F:kM}{R:Nat->ou}(h:WR T n w0.heap.size ρ F R fr H a w)(s:Ext w0.heap.size G0 F0 n0 w0 ρ.G F H.length w){E:List Nat}{dst:Option Nat}{cells:List AV}{K:Fr->dY->Prop}
  (k:kW E dst cells K fr H) (u:∀d,dst=some d->d<n) {vs:Array Value} (ty:TypeId) (l:hQ (jN F ρ) cells vs.toList) (f:∀c∈cells,c.gL=true):∃fr' H',K fr' H'/\SR T n G0 F0 n0 w0 fr' H' (a.put dst (.pointer (some ⟨w.heap.size,0,none⟩))) (w.alloc (.cells vs ty)):=by
 unfold kW at k
 split at k
 ·rename_i d;have o:=u d rfl;have t:=h.alloc (.cells vs ty);have b:R w.heap.size=.free:=h.lz _ (gY _);have hF:∀j,F w.heap.size j=none:=λj=>h.g.fresh _ j (gY _);have i:(w.alloc (.cells vs ty)).heap[w.heap.size]?=some (.cells vs ty (0,0)):=heap_alloc_new w _
  split at k
  ·obtain⟨ρ',q,hG,r,hw⟩:=t.acR b hF i (l.wM AV.kg λ_ _ _ h=>h.kg) (yh f) o;refine⟨_,_,k,ρ',F,q,hw,?_⟩;rw[ni];exact(s.alloc h.qq _).adY hG (by rw[r];exact h.qq)
  ·obtain⟨ρ',q,hG,hw⟩:=t.acy h.qq b hF i l f o;refine⟨_,_,k,ρ',F,q,hw,?_⟩;rw[hG];exact s.alloc h.qq _
 ·exact k.elim
def QF(w:World){t:TypeId}{z:Value}(a:zeroOf P t=some z):(Instr.alloc t true (.tuple #[])).run P w=.ok (.pointer (some ⟨w.heap.size,0,none⟩)) (w.alloc (.cells z.cells t)):=by
 have b:(zeroValue t).run P w=.ok z w:=by
  unfold zeroOf at a;cases hi:P.info? t with
  |none=>rw[hi] at a;cases a
  |some i=>
   rw[hi] at a;simp at a;simp[zeroValue,typeInfo,hi,a]
 unfold Instr.alloc;simp only[h7,b];rfl
theorem Cn{v:Value}(h:zh v=true)(a:∀vs,v≠ .tuple vs):(ofValue v).cells=v.cells.toList.map qs/\∀u∈v.cells.toList,u.oneCell'=true:=by
 cases v with
 |agg cs=>
  refine⟨rfl,λu hu=>?_⟩
  have b:cs.all (·.oneCell')=true:=h
  exact KE.1 b u (ye.1 hu)
 |tuple vs=>grind|_=>
  constructor
  ·rw[Gn rfl];exact AV.BK (yY _)
  ·simp[Value.cells,Value.oneCell']
def NO{ρ:Maps}{F:kM}{R:Nat->ou}(h:WR T n w0.heap.size ρ F R fr H a w)(N:Ext w0.heap.size G0 F0 n0 w0 ρ.G F H.length w){t:TypeId}{x v:AV}{O s:Value}{K:Fr->dY->Prop}
  (i:lP P t x v K fr H) (y:gG F ρ x O) (l:gG F ρ v s):∃fr' H' w',(Instr.storeAt t O s).run P w=.ok () w'/\K fr' H'/\SR T n G0 F0 n0 w0 fr' H' a w':=by
 unfold lP at i
 split at i
 ·exact i.elim
 ·rename_i bl k Q
  split at i
  ·rename_i b g off
   split at i
   ·rename_i cs A;obtain⟨hg,V,B,f,i⟩:=i;obtain⟨rfl,_⟩:=vM y;obtain⟨W,Y,S,vs,ty,I,r⟩:=h.box b cs A;have d:=l.cells (iI f);have hlen:=d.length
    have u:s.cells.toList.length=s.cells.size:=aa2
    have J:cs.length=vs.size:=by simpa using r.length
    have gk:=r.setCells d off;rw[hlen] at gk;rw[hg]
    have j:∀c∈setCells cs off v.cells,c.gL=true:=by
     intro c C;simp only[setCells,sU] at C;rcases C with(hm|hm)|hm
     ·exact S c (Db hm)
     ·exact l.sy (iI f) c hm
     ·exact S c (Fj hm)
    refine⟨_,_,_,zJ w I (.inl rfl) Q VW VW (jD d (l.sy (iI f))),i,ρ,F,R,h.Vr A (by simpa using gk) j,N.setRow (.inl W) _⟩
   ·exact i.elim
  ·rename_i o off
   split at i
   ·rename_i cs A;obtain⟨D,V,B,f,i⟩:=i;obtain⟨rfl,X⟩:=vL y;obtain⟨Z,I,r⟩:=h.g.lK o cs A;obtain⟨vs,ty,fz,rfl,L,r,U⟩:=r.HV D;have d:=l.cells (iI f);have hlen:=d.length
    have u:s.cells.toList.length=s.cells.size:=aa2
    have J:cs.length=vs.size:=by simpa using r.length
    have q:hQ (gQ F ρ.G ρ.n) v.norm.cells s.cells.toList:=by
     rw[AV.tv f];exact d.wM AV.kg λ_ _ _ h=>h.kg
    rw[<-h.hn] at r;have gk:=r.setCells q off
    have M:v.norm.cells.length=v.cells.length:=by rw[AV.tv f];simp
    rw[M,hlen] at gk
    have j:∀c∈setCells cs off v.norm.cells,c.gL=true:=by
     intro c C;simp only[setCells,sU] at C;rcases C with(hm|hm)|hm
     ·exact U c (Db hm)
     ·rw[AV.tv f] at hm;exact yh (l.sy (iI f)) c hm
     ·exact U c (Fj hm)
    refine⟨_,_,_,zJ w I L Q VW VW (jD d (l.sy (iI f))),i,ρ,F,R,h.SJ A D (by simpa using gk) (by simp only[setCells,ni,Dj,ON];omega) j,?_⟩;rw[XW];exact N.setRow (.inr ⟨o,by rw[<-h.hn];exact X,rfl⟩) _
   ·exact i.elim
  ·exact i.elim
end
end Go.kY
namespace Go.kY
open Go
def oi(P:Program)(t:TypeId):Option (TypeId×Nat):=
 match P.underlying t with
 |some (.slice e)=>
  match P.info? e with
  |some i=>
   match i.zero with
   |some z=>if z.cells.size=i.size/\i.bytes<=256/\0<i.size/\z.cells.toList.all Value.oneCell' then some (e,i.size)else none|none=>none
  |none=>none
 |_=>none
def kc:Nat:=549755813888
section
variable{P:Program}
def m6{t e:TypeId}{sz:Nat}(h:oi P t=some (e,sz)):∃i z,P.underlying t=some (.slice e)/\P.info? e=some i/\i.zero=some z/\z.cells.size=sz/\i.size=sz/\i.bytes<=256/\0<sz:=by grind[oi]
def fill_flat{sz:Nat}:∀(pv:List Value) (k:Nat) (pre rest:List Value),(∀v∈pv,v.cells.size=sz)->pre.length=k*sz->rest.length=pv.length*sz->Instr.fill (λi=>some (i*sz,sz)) (pre++rest).toArray ((pv.zipIdx k).map λx=>(x.2,x.1))=some (pre++pv.flatMap λv=>v.cells.toList).toArray:=by
 intro pv
 induction pv with
 |nil=>
  intro k pre rest _ _ h;have:rest=[]:=B_ (by simpa using h);subst this;simp[Instr.fill]
 |cons v pv ih=>
  intro k pre rest d j h;have l:=d v aa2
  have f:v.cells.toList.length=sz:=by simp[l]
  rw[mz,C9,aal] at h;have a:=foldl_set v.cells.toList 0 (k*sz) (pre++rest).toArray (by simp only[afg,ni,F2];omega);simp only[F2,f] at a
  have n:(pre++rest).toArray.toList.take (k*sz)=pre:=by simp[<-j]
  have o:(pre++rest).toArray.toList.drop (k*sz+sz)=rest.drop sz:=by
   simp only[];rw[aex];rw[Oj VW,nT,<-j]
   congr 1
   omega
  rw[n,o] at a;have c:=ih (k+1) (pre++v.cells.toList) (rest.drop sz) (λu hu=>d u (by simp[hu])) (by rw[ni,j,f,C9,aal]) (by rw[ON,h];omega);simp only[List.zipIdx_cons,oe]
  show(if(decide (v.cells.size≠sz)||decide (k*sz+v.cells.size>(pre++rest).toArray.size)) then none
   else Instr.fill (λi=>some (i*sz,sz)) (v.cells.zipIdx.foldl (λcs (x:Value×Nat)=>cs.setIfInBounds (k*sz+x.2) x.1) (pre++rest).toArray) ((pv.zipIdx (k+1)).map λx=>(x.2,x.1)))=_
  rw[dK (by simp only[l,afg,ni];simp;omega),<-ag8,ahF]
  have b:List.foldl (λcs (x:Value×Nat)=>cs.setIfInBounds (k*sz+x.2) x.1) (pre++rest).toArray v.cells.toList.zipIdx=(pre++v.cells.toList++rest.drop sz).toArray:=by
   apply F7.1;rw[a]
  rw[b,c];simp[Iu,th]
end
section
variable{T:eN} {n B0:Nat} {ρ:Maps} {F:kM} {R:Nat->ou} {fr:Fr} {H:dY} {a:Act} {w:World}
def kn(F:kM)(b k:Nat)(vs:List Value):kM:=λa j=>if a=b/\j<k then vs[j]?else F a j
def xc(F:kM)(b:Nat)(vs:List Value):(kn F b vs.length vs).has b 0 vs:=by
 intro i v a;show(if b=b/\0+i<vs.length then vs[0+i]?else F b (0+i))=some v
 grind
def WR.freeze(h:WR T n B0 ρ F R fr H a w){b:Nat}{vs:Array Value}{ty:TypeId}{k:Nat}{us:List Value}(q:R b=.free)(hF:∀j,F b j=none)
  (C:w.heap[b]?=some (.cells vs ty (0,0))) (u:JG vs) (D:∀j v,j<k->us[j]?=some v->vs[j]?=some v):xu F (kn F b k us) ρ ρ/\WR T n B0 ρ (kn F b k us) R fr H a w:=by
 have hold:∀i j v,F i j=some v->kn F b k us i j=some v:=by grind[kn]
 have f:∀i j,i≠b->kn F b k us i j=F i j:=by
  intro i j I;unfold kn;rw[dK (λh=>I h.1)]
 have s:∀G n,Hh F (kn F b k us) G G n n:=λG n=>⟨hold,gY _,λ_ _=>rfl⟩;have t:xu F (kn F b k us) ρ ρ:=⟨s _ _,λ_=>gY _,λ_ _ _=>rfl,λ_=>gY _,λ_ _ _=>rfl⟩;refine⟨t,⟨⟨?_,?_,h.g.inj,?_,?_,λg x P=>(h.g.Dn g x P).grow (s _ _),?_⟩,h.size,h.defers,h.env.grow t,h.hn,h.lg,h.ag,?_,?_,?_,h.n_,h.lz,h.qq⟩⟩
 ·intro i j v r;unfold kn at r
  split at r
  ·rename_i Q;obtain⟨rfl,S⟩:=Q;rw[cell_of_row w i j vs ty (0,0) C];exact D j v S r
  ·exact h.g.GK i j v r
 ·intro o cs y;obtain⟨J,A,B⟩:=h.g.lK o cs y;exact⟨J,A,B.grow (s _ _)⟩
 ·intro o j y K;rw[f]
  ·exact h.g.gF o j y K
  ·rintro rfl;have:=h.n_ o y;rw[q] at this;cases this
 ·intro i j l;rw[f]
  ·exact h.g.fresh i j l
  ·rintro rfl;have:=p1 C;omega
 ·intro U i j v r
  by_cases l:i=b
  ·subst l;exact⟨vs,ty,_,C,.inl rfl,u⟩
  ·rw[f _ _ l] at r;exact h.g.row U i j v r
 ·intro d cs V;obtain⟨A,B,M,vs',L,N,O⟩:=h.box d cs V;exact⟨A,B,M,vs',L,N,O.mono λ_ _ _ h=>h.grow t⟩
 ·intro k' m W i c sz X;obtain⟨A,B,M,Y,N,O⟩:=h.tok k' m W i c sz X
  grind
 ·intro i j v r
  by_cases l:i=b
  ·subst l;rw[q];simp
  ·rw[f _ _ l] at r;exact h.qi i j v r
def ui{F:kM}{b k:Nat}{us:List Value}{a j:Nat}(h:a≠b):kn F b k us a j=F a j:=by grind[kn]
end
def m4(P:Program)(t n:Nat)(parts:List (Nat×AV)):Option AV:=
 match oi P t with
 |some (_,sz)=>
  if parts.map (·.1)=List.range n/\parts.all (λp=>p.2.cells.length==sz&&fw p.2)=true/\n*sz<=16777216 then some (.slice .full (parts.map λp=>p.2.norm))else none
 |none=>none
def HA{α:Type}(parts:List (Nat×α))(n:Nat)(h:parts.map (·.1)=List.range n):parts=(parts.map (·.2)).zipIdx.map λx=>(x.2,x.1):=by
 apply List.ext_getElem
 ·simp
 ·intro i a b
  have c:(parts.map (·.1))[i]?=(List.range n)[i]?:=by rw[h]
  grind
section
variable{P:Program} {T:eN} {n:Nat} {G0:Nat->Nat} {F0:kM} {n0:Nat} {w0:World} {fr:Fr} {H:dY} {a:Act} {w:World}
def Hl(w:World){t e:TypeId}{sz:Nat}(h:oi P t=some (e,sz)):(Instr.buildSlice t 0 #[]).run P w=.ok (.slice (some ⟨w.heap.size,0,none⟩) 0 0) (w.alloc (.cells #[] e)):=by
 obtain⟨i,z,hu,hi,a,_⟩:=m6 h;simp[Instr.buildSlice,run_underlying hu,sizeOf,typeInfo,hi,Instr.fill,newRow]
 grind
def Ro{F:kM}{ρ:Maps}:∀{parts:List (Nat×AV)} {pv:List (Nat×Value)},hQ (λ(x:Nat×AV) (y:Nat×Value)=>x.1=y.1/\gG F ρ x.2 y.2) parts pv->(∀p∈parts,fw p.2=true)->hQ (gQ F ρ.G ρ.n) ((parts.map λp=>p.2.norm).flatMap AV.cells) ((pv.map (·.2)).flatMap λv=>v.cells.toList)/\∀c∈(parts.map λp=>p.2.norm).flatMap AV.cells,c.gL=true:=by
 intro parts pv h hn
 induction h with
 |nil=>exact⟨.nil,aa2⟩|@cons p q j k d _ ih=>
  obtain⟨i1,i2⟩:=ih λp f=>hn p (by simp[f]);have a:=hn p aa2;have i:=d.2.cells (iI a);have l:=d.2.sy (iI a)
  have b:hQ (gQ F ρ.G ρ.n) p.2.norm.cells q.2.cells.toList:=by
   rw[AV.tv a];exact i.wM AV.kg λ_ _ _ h=>h.kg
  refine⟨?_,?_⟩
  ·exact b.append i1
  ·grind[AV.tv,yh]
def AB{ρ:Maps}{F:kM}(w:World){t k:Nat}{parts:List (Nat×AV)}{pv:List (Nat×Value)}{r:AV}
  (f:m4 P t k parts=some r) (b:hQ (λ(x:Nat×AV) (y:Nat×Value)=>x.1=y.1/\gG F ρ x.2 y.2) parts pv):∃l us e sz,r=.slice .full l/\l.length=k/\k<=maxLen/\(∀x∈l,x.cells.length=sz)/\hQ (gQ F ρ.G ρ.n) (l.flatMap AV.cells) us/\(∀c∈l.flatMap AV.cells,c.gL=true)/\(Instr.buildSlice t k pv.toArray).run P w=.ok (.slice (some ⟨w.heap.size,0,none⟩) k k) (w.alloc (.cells us.toArray e)):=by
 unfold m4 at f
 split at f
 ·rename_i e sz C
  split at f
  ·rename_i O;obtain⟨j,D,Q⟩:=O;injection f with f;subst f;obtain⟨i,z,hu,hi,R,S,o,T,h⟩:=m6 C
   have a:∀p∈parts,p.2.cells.length=sz/\fw p.2=true:=by
    intro p B;have:=k_.1 D p B;simpa using this
   have s:parts.length=k:=by have:=congrArg List.length j;simpa using this
   have u:pv.length=k:=by rw[<-b.length];exact s
   have H:pv.map (·.1)=List.range k:=by
    rw[<-j];clear j D a s u
    induction b with
    |nil=>rfl|cons K _ ih=>simp only[oe,ih,K.1]
   have I:=HA pv k H
   have L:∀v∈pv.map (·.2),v.cells.size=sz:=by
    intro v U;obtain⟨q,V,rfl⟩:=qp.1 U;obtain⟨p,B,W⟩:=b.mem V;have K:=W.2.cells (iI (a p B).2);have:=K.length;rw[(a p B).1] at this;simpa using this.symm
   obtain⟨A,d⟩:=Ro b λp B=>(a p B).2
   have J:(Instr.buildSlice t k pv.toArray).run P w=.ok (.slice (some ⟨w.heap.size,0,none⟩) k k) (w.alloc (.cells ((pv.map (·.2)).flatMap λv=>v.cells.toList).toArray e)):=by
    rcases agi k with M|hkpos
    ·subst M;have:pv=[]:=B_ u;subst this;exact Hl w C
    ·have N:=fill_flat (sz:=sz) (pv.map (·.2)) 0 [] ((Array.range (k*sz)).map (z.cells[· %z.cells.size]!)).toList L aa2 (by simp[u])
     rw[<-I] at N;simp only[nT,Ua] at N;exact run_buildSlice w t e k pv.toArray _ i z hu hi R (by rw[o];omega) (by rw[o];have:=Nat.mul_pos hkpos h;omega) (by rw[o];exact N)
   refine⟨parts.map λp=>p.2.norm,_,e,sz,rfl,by simp[s],?_,?_,A,d,J⟩
   ·have:k<=k*sz:=ahI k h;simp only[maxLen];omega
   ·grind[AV.tv]
  ·cases f
 ·cases f
def Ge{ρ:Maps}{F:kM}{R:Nat->ou}(h:WR T n w0.heap.size ρ F R fr H a w)(J:Ext w0.heap.size G0 F0 n0 w0 ρ.G F H.length w){t k:Nat}{parts:List (Nat×AV)}{pv:List (Nat×Value)}{r:AV}
  {dst:Option Nat} (C:m4 P t k parts=some r) (i:hQ (λ(x:Nat×AV) (y:Nat×Value)=>x.1=y.1/\gG F ρ x.2 y.2) parts pv) (K:∀d,dst=some d->d<n):∃v w',(Instr.buildSlice t k pv.toArray).run P w=.ok v w'/\SR T n G0 F0 n0 w0 (fr.put dst r) H (a.put dst v) w':=by
 obtain⟨l,us,e,sz,rfl,D,DW,A,c,f,q⟩:=AB w C i;have s:=heap_alloc_new w (.cells us.toArray e);obtain⟨B,hw⟩:=(h.alloc (.cells us.toArray e)).freeze (us:=us) (k:=us.length) (h.lz _ (gY _)) (λj=>h.g.fresh _ j (gY _)) s (λu hu=>jD (c.mono λ_ _ _ h=>jN.p h) f u (by simpa using hu)) (by intro j v _ L;simpa using L);refine⟨_,_,q,ρ,_,R,hw.put K (x:=.slice .full l) (v:=.slice (some ⟨w.heap.size,0,none⟩) k k) ?_,?_⟩
 ·have I:=gQ.slice (F:=kn F w.heap.size us.length us) (G:=ρ.G) (n:=ρ.n) (tag:=.full) (l:=l) (b:=w.heap.size) (o:=0) (base:=some ⟨w.heap.size,0,none⟩) (cap:=l.length) (sz:=sz)
   (.oU (c.mono λ_ _ _ h=>h.grow B.g)) (xc _ _ _) (λ_=>rfl) A f (gY _) (by rw[D];exact DW) (.inr ⟨rfl,rfl⟩)
  rw[D] at I;exact .p I
 ·exact(J.alloc h.qq (.cells us.toArray e)).freeze (F':=kn F w.heap.size us.length us) λb j C=>ui (by have:=h.qq;omega)
end
def o5(fr:Fr)(tag:Tag)(l:List AV):Bool:=
 match tag with
 |.gI=>false|.full=>true|.loc k g=>g==fr.fi k&&fr.qh k==some l.length
def vH(tag:Tag)(qh:Nat->Option Nat):Nat->Option Nat:=
 match tag with
 |.loc k _=>gK qh k none|_=>qh
def grown(fr:Fr)(d:Nat)(tag:Tag)(l m:List AV):Fr:=
 {fr with env:=gK fr.env d (.slice (.loc d (fr.fi d+1)) (l++m)),qh:=gK (vH tag fr.qh) d (some (l.length+m.length)),fi:=gK fr.fi d (fr.fi d+1)}
def m_(P:Program)(T:eN)(c:Call)(dst:Option Nat)(K:Fr->dY->Prop)(fr:Fr)(H:dY):Prop:=
 match dst,c.args.toList,c.argTypes.toList with
 |some d,[s,x],[t,a]=>
  match oi P t,ev T fr s,ev T fr x with
  |some (_,sz),.slice tag l,.slice _ m=>
   a=t/\la sz l=true/\la sz m=true/\l.length+m.length<=kc/\(if o5 fr tag l then K (grown fr d tag l m) H else m=[]/\K (fr.put (some d) (.slice .gI l)) H)
  |_,_,_=>False
 |_,_,_=>False
section
variable{P:Program} {T:eN} {n:Nat} {G0:Nat->Nat} {F0:kM} {n0:Nat} {w0:World} {fr:Fr} {H:dY} {a:Act} {w:World}
def Hc(w:World){t e:TypeId}{sz:Nat}(h:oi P t=some (e,sz))(ty:TypeId)(base:Option Addr)(len cap:Nat)(a:len<=cap)(x:Value)(f:∃b c,x=.slice b 0 c):(Builtin.append_ #[t,t] ty #[.slice base len cap,x]).run P w=.ok (.slice base len cap) w:=by
 obtain⟨i,z,hu,hi,o,j,k,l,d⟩:=m6 h;obtain⟨b,c,rfl⟩:=f;cases b with
 |none=>
  cases base with
  |none=>simp[Builtin.append_,run_underlying hu,sizeOf,typeInfo,hi,Builtin.lenOf,a,Builtin.firstCells]|some n=>simp[Builtin.append_,run_underlying hu,sizeOf,typeInfo,hi,Builtin.lenOf,a,Builtin.firstCells,storeCells]
 |some b=>
  cases base with
  |none=>simp[Builtin.append_,run_underlying hu,sizeOf,typeInfo,hi,Builtin.lenOf,a,Builtin.firstCells,loadCells,loadCellsFrom]|some n=>simp[Builtin.append_,run_underlying hu,sizeOf,typeInfo,hi,Builtin.lenOf,a,Builtin.firstCells,storeCells,loadCells,loadCellsFrom]
theorem yc(w:World)(t ty e n:TypeId)(i:TypeInfo)(o:P.underlying t=some (.slice e))(hi:P.info? e=some i)
  (g b d:Nat) (cur:Array Value) (hg:w.heap[g]?=some (.cells cur n (0,0)))
  (a:Addr) (m c:Nat) (news:List Value) (q:news.length=m*i.size) (f:∀j u,news[j]?=some u->w.cell? (a.add j)=some u) (r:∀u∈news,u.oneCell'=true)
  (h:b+m<=d) (k:b*i.size+news.length<=cur.size):(Builtin.append_ #[t,t] ty #[.slice (some ⟨g,0,none⟩) b d,.slice (some a) m c]).run P w=.ok (.slice (some ⟨g,0,none⟩) (b+m) d) (w.setRow g (cur.toList.take (b*i.size)++news++cur.toList.drop (b*i.size+news.length)).toArray):=by
 have s:=run_firstCells_some (P:=P) w i.size m a m c news q f;have l:=run_storeCells_at P g (b*i.size) n news 0 cur w hg (by simpa using k) r;simp[Builtin.append_,run_underlying o,sizeOf,typeInfo,hi,Builtin.lenOf,h,s,Addr.add_lit,l]
def WR.rename{ρ:Maps}{F:kM}{R:Nat->ou}{B0:Nat}(h:WR T n B0 ρ F R fr H a w){tag:Tag}{l:List AV}{base:Option Addr}{cap d:Nat}(hd:d<n)
  (hp:gQ F ρ.G ρ.n (.slice .gI l) (.slice base l.length cap)) (K:tag=.full/\cap=l.length\/∃k g,tag=.loc k g/\g=fr.fi k/\fr.qh k=some l.length/\uY ρ k g l base cap):∃ρ' S,ρ'.G=ρ.G/\ρ'.n=ρ.n/\(∀k g,tag=.loc k g->ρ'.A d (fr.fi d+1)=ρ.A k g)/\ρ'.ag d=fr.fi d+1/\WR T n B0 ρ' F S (grown fr d tag l []) H (a.put (some d) (.slice base l.length cap)) w:=by
 let f:Option (Nat×Nat×Nat):=match tag with|.loc k g=>ρ.A k g|_=>none
 let ρ':Maps:={ρ with A:=sX ρ.A d (fr.fi d+1) f,ag:=gK ρ.ag d (fr.fi d+1)}
 let S:Nat->ou:=match f with|some (b,_,_)=>gK R b (.arr d)|none=>R
 have u:xu F F ρ ρ':=by
  refine⟨.refl,λ_=>gY _,λ_ _ _=>rfl,λk=>?_,λk g hg=>?_⟩
  ·show ρ.ag k<=gK ρ.ag d (fr.fi d+1) k;unfold gK
   split
   ·rename_i U;subst U;rw[h.ag];omega
   ·exact gY _
  ·show sX ρ.A d (fr.fi d+1) f k g=ρ.A k g;unfold sX;rw[dK];rintro⟨rfl,rfl⟩;rw[h.ag] at hg;omega
 have i:∀b c sz,f=some (b,c,sz)->∃k g,tag=.loc k g/\g=fr.fi k/\fr.qh k=some l.length/\ρ.A k (fr.fi k)=some (b,c,sz)/\base=some ⟨b,0,none⟩/\cap=c/\∀x∈l,x.cells.length=sz:=by
  intro b c sz q;rcases K with⟨rfl,_⟩|⟨k,g,rfl,rfl,y,M⟩
  ·exact absurd q (by simp[f])
  ·refine⟨k,_,rfl,rfl,y,q,?_⟩;unfold uY at M;have W:ρ.A k (fr.fi k)=some (b,c,sz):=q;rw[W] at M;exact M
 have B:∀I,(∀k,R I≠ .arr k)->S I=R I:=by
  intro I X;show(match f with|some (b,_,_)=>gK R b (.arr d)|none=>R) I=R I;cases q:f with
  |none=>rfl|some p=>
   obtain⟨b,c,sz⟩:=p;obtain⟨k,g,_,_,y,r,_⟩:=i b c sz q;have J:=(h.tok k _ y b c sz r).2.1;simp only[gK];rw[dK];rintro rfl;exact X k J
 have N:uY ρ' d (fr.fi d+1) l base cap:=by grind[uY,sX]
 refine⟨ρ',S,rfl,rfl,?_,by show gK ρ.ag d (fr.fi d+1) d=_;simp[gK],⟨⟨h.g.GK,h.g.lK,h.g.inj,h.g.gF,h.g.fresh,h.g.Dn,h.g.row⟩,by rw[EZ];exact h.size,by rw[put_defers];exact h.defers,?_,h.hn,h.lg,?_,?_,?_,?_,?_,?_,h.qq⟩⟩
 ·rintro k g rfl;show sX ρ.A d (fr.fi d+1) f d (fr.fi d+1)=ρ.A k g;simp[sX,f]
 ·have h0:=(h.env.grow u).put (d:=some d) (by intro C he;injection he with he;subst he;rw[h.size];exact hd) (x:=.slice (.loc d (fr.fi d+1)) l) (v:=.slice base l.length cap)
   (.cell (.loc (hp.grow u.g) (by show _<=gK ρ.ag d (fr.fi d+1) d;simp[gK]) N))
  simp only[grown,Ac];exact h0
 ·intro k;show gK ρ.ag d (fr.fi d+1) k=gK fr.fi d (fr.fi d+1) k;unfold gK
  split
  ·rfl
  ·exact h.ag k
 ·intro C cs Y;obtain⟨h1,h2,h3,vs,ty,h4,h5⟩:=h.box C cs Y;exact⟨h1,by rw[B _ (by intro k;show R (ρ.L C (fr.gen C))≠_;rw[h2];simp)];exact h2,h3,vs,ty,h4,h5.mono λ_ _ _ h=>h.grow u⟩
 ·intro k m s b c sz q;simp only[grown,gK] at s
  by_cases t:k=d
  ·subst t;simp only[if_true,B4,F2,B9] at s;subst s
   have O:(grown fr k tag l []).fi k=fr.fi k+1:=by simp[grown,gK]
   rw[O] at q
   have V:ρ'.A k (fr.fi k+1)=f:=by show sX ρ.A k (fr.fi k+1) f k (fr.fi k+1)=f;simp[sX]
   rw[V] at q;obtain⟨k2,g2,_,_,y,r,ao,aq,ar⟩:=i b c sz q;obtain⟨O,V,Z,ad,P,e5⟩:=h.tok k2 _ y b c sz r;refine⟨O,?_,Z,ad,P,e5⟩;show(match f with|some (b,_,_)=>gK R b (.arr k)|none=>R) b=.arr k;rw[q];simp[gK]
  ·simp only[dK t] at s
   have O:(grown fr d tag l []).fi k=fr.fi k:=by simp[grown,gK,t]
   rw[O] at q
   have V:ρ'.A k (fr.fi k)=ρ.A k (fr.fi k):=by show sX ρ.A d (fr.fi d+1) f k (fr.fi k)=_;simp[sX,t]
   rw[V] at q
   have Q:fr.qh k=some m/\∀k2 g2,tag=.loc k2 g2->k≠k2:=by
    unfold vH at s
    split at s
    ·rename_i k2 g2;simp only[gK] at s
     split at s
     ·cases s
     ·rename_i ae;refine⟨s,λk3 g3 he=>?_⟩;injection he with af aw;subst af;exact ae
    ·rename_i ah;exact⟨s,λk3 g3 he=>absurd he (ah k3 g3)⟩
   obtain⟨Z,P,e5,ai,e6,e7⟩:=h.tok k m Q.1 b c sz q;refine⟨Z,?_,e5,ai,e6,e7⟩;show(match f with|some (b,_,_)=>gK R b (.arr d)|none=>R) b=.arr k;cases ak:f with
   |none=>exact P|some p=>
    obtain⟨b3,c3,D⟩:=p;obtain⟨k2,g2,an,_,y,r,_⟩:=i b3 c3 D ak;have J:=(h.tok k2 _ y b3 c3 D r).2.1;simp only[gK];rw[dK]
    ·exact P
    ·rintro rfl;rw[P] at J;injection J with J;exact Q.2 k2 g2 an J
 ·intro b j v hf;intro C;have U:=h.qi b j v hf C;show(match f with|some (b,_,_)=>gK R b (.arr d)|none=>R) b≠ .box C;cases q:f with
  |none=>exact U|some p=>
   obtain⟨b3,c3,D⟩:=p;simp only[gK]
   split
   ·simp
   ·exact U
 ·intro o M;have:=h.n_ o M;rw[B _ (by intro k;show R (ρ.G o)≠_;rw[this];simp)];exact this
 ·intro b hb;have:=h.lz b hb;rw[B b (by rw[this];simp)];exact this
end
end Go.kY
namespace Go.kY
open Go
theorem Mv{α:Type}(f:Nat->α)(i:Nat)(x y:α):gK (gK f i x) i y=gK f i y:=by grind[gK]
theorem Bf{α:Type}(f:Nat->α)(i j:Nat)(x:α)(h:j≠i):gK f i x j=f j:=by simp[gK,h]
def xA{a:Array Value}(h:∀u∈a.toList,u.oneCell'=true)(b:0<a.size)(k:Nat):∀u∈(Builtin.zeroCells a k).toList,u.oneCell'=true:=by
 intro u hu;unfold Builtin.zeroCells at hu;simp only[Pp,qp] at hu;obtain⟨i,_,rfl⟩:=hu;have c:i%a.size<a.size:=aaw _ b
 grind
def O3{P:Program}{t e:TypeId}{sz:Nat}(h:oi P t=some (e,sz)){i:TypeInfo}{z:Value}(hi:P.info? e=some i)(a:i.zero=some z):∀u∈z.cells.toList,u.oneCell'=true:=by grind[oi]
section
variable{P:Program} {T:eN} {n B0:Nat} {ρ:Maps} {F:kM} {R:Nat->ou} {fr:Fr} {H:dY} {a:Act} {w:World}
def WR.extend(h:WR T n B0 ρ F R fr H a w){d p q b c sz:Nat}{news:List Value}(ht:fr.qh d=some p)(hA:ρ.A d (fr.fi d)=some (b,c,sz))(hq:news.length=q*sz)(L:p+q<=c)(C:∀u∈news,u.oneCell'=true)
  {cur:Array Value} {ty:TypeId} (S:w.heap[b]?=some (.cells cur ty (0,0))):∃F',xu F F' ρ ρ/\(∀f j,f≠b->F' f j=F f j)/\(∀(j:Nat) (v:Value),news[j]?=some v->F' b (p*sz+j)=some v)/\WR T n B0 ρ F' R {fr with qh:=gK fr.qh d (some (p+q))} H a (w.setRow b (cur.toList.take (p*sz)++news++cur.toList.drop (p*sz+news.length)).toArray):=by
 obtain⟨h1,h2,h3,an,⟨vs,s,U,h5,M⟩,h6⟩:=h.tok d p ht b c sz hA;rw[S] at U;injection U with U;injection U with e1 e2;subst e1;subst e2;have V:(p+q)*sz<=c*sz:=Km _ L;rw[C9] at V
 have W:p*sz<=cur.toList.length:=acx
 let F':kM:=λf j=>if f=b/\p*sz<=j/\j<p*sz+news.length then news[j-p*sz]?else F f j
 have hold:∀f j v,F f j=some v->F' f j=some v:=by
  intro f j v r;show(if f=b/\p*sz<=j/\j<p*sz+news.length then news[j-p*sz]?else F f j)=some v;rw[dK]
  ·exact r
  ·rintro⟨rfl,K,_⟩;rw[h6 j K] at r;cases r
 have i:∀f j,f≠b->F' f j=F f j:=by
  intro f j t;show(if f=b/\p*sz<=j/\j<p*sz+news.length then news[j-p*sz]?else F f j)=F f j;rw[dK (λh=>t h.1)]
 have N:∀(j:Nat) (v:Value),news[j]?=some v->F' b (p*sz+j)=some v:=by
  intro j v hv;have K:=(sY.1 hv).1;show(if b=b/\p*sz<=p*sz+j/\p*sz+j<p*sz+news.length then news[p*sz+j-p*sz]?else F b (p*sz+j))=some v;rw[dR ⟨rfl,VW,VW⟩,Nat.add_sub_cancel_left];exact hv
 have D:∀G n,Hh F F' G G n n:=λG n=>⟨hold,gY _,λ_ _=>rfl⟩;have I:xu F F' ρ ρ:=⟨D _ _,λ_=>gY _,λ_ _ _=>rfl,λ_=>gY _,λ_ _ _=>rfl⟩
 have y:∀f,R f≠ .arr d->f≠b:=by rintro f l rfl;exact l h2
 have O:JG (cur.toList.take (p*sz)++news++cur.toList.drop (p*sz+news.length)).toArray:=by
  intro u hu;simp only[sU] at hu;rcases hu with(hu|hu)|hu
  ·exact M u (Db hu)
  ·exact C u hu
  ·exact M u (Fj hu)
 have B:=setRow_heap w b cur (cur.toList.take (p*sz)++news++cur.toList.drop (p*sz+news.length)).toArray ty (0,0) S;refine⟨F',I,i,N,⟨⟨?_,?_,h.g.inj,?_,?_,λg x hx=>(h.g.Dn g x hx).grow (D _ _),?_⟩,h.size,h.defers,h.env.grow I,h.hn,h.lg,h.ag,?_,?_,?_,h.n_,?_,by rw[size_setRow];exact h.qq⟩⟩
 ·intro f j v r
  by_cases l:f=b
  ·subst l;rw[cell_of_row _ f j _ ty (0,0) B];simp only[ahX];change (if f=f/\p*sz<=j/\j<p*sz+news.length then news[j-p*sz]?else F f j)=some v at r
   split at r
   ·rename_i hc;rw[th,tE (by rw[Dj];omega),Dj,adk W,vE VW];exact r
   ·rename_i hc
    have K:j<p*sz:=by
     rcases vh j (p*sz)with h'|h'
     ·exact h'
     ·rw[h6 j h'] at r;cases r
    have:=h.g.GK f j v r;rw[cell_of_row w f j cur ty (0,0) S] at this;rw[th,vE (by rw[Dj];omega),Qq,dR K];simpa using this
  ·rw[cell_setRow_other _ _ _ _ _ l];rw[i _ _ l] at r;exact h.g.GK f j v r
 ·intro o cs P;obtain⟨X,g1,g2⟩:=h.g.lK o cs P;refine⟨X,?_,g2.grow (D _ _)⟩;rw[setRow_other]
  ·exact g1
  ·exact y _ (by rw[h.n_ o (sY.1 P).1];simp)
 ·intro o j P Y;rw[i]
  ·exact h.g.gF o j P Y
  ·exact y _ (by rw[h.n_ o P];simp)
 ·intro f j l;rw[size_setRow] at l;rw[i]
  ·exact h.g.fresh f j l
  ·rintro rfl;have:=p1 S;omega
 ·intro hT f j v r
  by_cases l:f=b
  ·subst l;exact⟨_,ty,_,B,.inl rfl,O⟩
  ·rw[i _ _ l] at r;obtain⟨Z,ad,ae,g1,g2⟩:=h.g.row hT f j v r;exact⟨Z,ad,ae,by rw[setRow_other _ _ _ _ l];exact g1,g2⟩
 ·intro d' cs af;obtain⟨g1,g2,g3,vs',s,g4,g5⟩:=h.box d' cs af;refine⟨g1,g2,g3,vs',s,?_,g5.mono λ_ _ _ h=>h.grow I⟩;rw[setRow_other]
  ·exact g4
  ·exact y _ (by rw[g2];simp)
 ·intro k m Q f c' ah ai;simp only[gK] at Q
  by_cases J:k=d
  ·subst J;simp only[if_true,B9] at Q;subst Q
   grind
  ·simp only[dK J] at Q;obtain⟨g1,g2,g3,ak,⟨vs',s,g4,g5⟩,g6⟩:=h.tok k m Q f c' ah ai;have t:f≠b:=y _ (by rw[g2];simp[J]);refine⟨g1,g2,g3,ak,⟨vs',s,by rw[setRow_other _ _ _ _ t];exact g4,g5⟩,λj K=>?_⟩;rw[i _ _ t];exact g6 j K
 ·intro f j v r
  by_cases l:f=b
  ·subst l;rw[h2];simp
  ·rw[i _ _ l] at r;exact h.qi f j v r
 ·intro f l;rw[size_setRow] at l;exact h.lz f l
def WR.VV(h:WR T n B0 ρ F R fr H a w){b:Nat}{vs:Array Value}{ty:TypeId}{us:List Value}{c sz:Nat}{tag:Tag}{l m:List AV}{d:Nat}(hd:d<n)(hb:B0<=b)(q:R b=.free)
  (hF:∀j,F b j=none) (X:w.heap[b]?=some (.cells vs ty (0,0))) (B:JG vs) (Y:vs.size=c*sz) (Z:0<l.length+m.length) (hp:l.length+m.length<=c) (hc:c<=maxLen) (ak:us.length=(l.length+m.length)*sz)
  (K:∀(j:Nat) (v:Value),us[j]?=some v->vs[j]?=some v) (t:hO F ρ.G ρ.n ((l++m).flatMap AV.cells) us) (M:∀x∈(l++m).flatMap AV.cells,x.gL=true) (N:∀x∈l++m,x.cells.length=sz):∃ρ' O,ρ'.G=ρ.G/\WR T n B0 ρ' (kn F b us.length us) O (grown fr d tag l m) H (a.put (some d) (.slice (some ⟨b,0,none⟩) (l.length+m.length) c)) w:=by
 obtain⟨C,P⟩:=h.freeze (k:=us.length) (us:=us) q hF X B (λj v _ hv=>K j v hv)
 let ρ':Maps:={ρ with A:=sX ρ.A d (fr.fi d+1) (some (b,c,sz)),ag:=gK ρ.ag d (fr.fi d+1)}
 let O:Nat->ou:=gK R b (.arr d)
 have u:xu F (kn F b us.length us) ρ ρ':=by
  refine⟨C.g,λ_=>gY _,λ_ _ _=>rfl,λk=>?_,λk g hg=>?_⟩
  ·show ρ.ag k<=gK ρ.ag d (fr.fi d+1) k;unfold gK
   split
   ·rename_i h';subst h';rw[h.ag];omega
   ·exact gY _
  ·show sX ρ.A d (fr.fi d+1) (some (b,c,sz)) k g=ρ.A k g;unfold sX;rw[dK];rintro⟨rfl,rfl⟩;rw[h.ag] at hg;omega
 have D:xu (kn F b us.length us) (kn F b us.length us) ρ ρ':=⟨.refl,u.lg,u.L,u.ag,u.A⟩
 have r:∀f,R f≠ .free->O f=R f:=by
  intro f i;show gK R b (.arr d) f=R f;unfold gK;rw[dK];rintro rfl;exact i q
 have an:∀f,R f≠ .free->f≠b:=by rintro f i rfl;exact i q
 refine⟨ρ',O,rfl,⟨P.g,by rw[EZ];exact h.size,by rw[put_defers];exact h.defers,?_,h.hn,h.lg,?_,?_,?_,?_,?_,?_,h.qq⟩⟩
 ·have Q:gG (kn F b us.length us) ρ' (.slice (.loc d (fr.fi d+1)) (l++m)) (.slice (some ⟨b,0,none⟩) (l.length+m.length) c):=by
   have hlen:(l++m).length=l.length+m.length:=ni
   have S:=gQ.slice (F:=kn F b us.length us) (G:=ρ'.G) (n:=ρ'.n) (tag:=.gI) (l:=l++m) (b:=b) (o:=0) (base:=some ⟨b,0,none⟩) (cap:=c) (sz:=sz)
    (t.grow C.g) (xc F b us) (λ_=>rfl) N M VW hc (.inl rfl)
   rw[hlen] at S;rw[<-hlen];refine .cell (.loc (by rw[hlen];exact S) (by show _<=gK ρ.ag d (fr.fi d+1) d;simp[gK]) ?_);unfold uY
   have e:ρ'.A d (fr.fi d+1)=some (b,c,sz):=by show sX ρ.A d (fr.fi d+1) (some (b,c,sz)) d (fr.fi d+1)=_;simp[sX]
   rw[e];exact⟨rfl,rfl,N⟩
  have h1:=(P.env.grow D).put (d:=some d) (by intro U he;injection he with he;subst he;rw[h.size];exact hd) Q;exact h1
 ·intro k;show gK ρ.ag d (fr.fi d+1) k=gK fr.fi d (fr.fi d+1) k;unfold gK
  split
  ·rfl
  ·exact h.ag k
 ·intro U cs ad;obtain⟨h1,h2,h3,vs',ae,h4,h5⟩:=P.box U cs ad;exact⟨h1,by rw[r _ (by show R (ρ.L U (fr.gen U))≠_;rw[h2];simp)];exact h2,h3,vs',ae,h4,h5.mono λ_ _ _ h=>h.grow D⟩
 ·intro k m' s f c' af I;simp only[grown,gK] at s
  by_cases y:k=d
  ·subst y;simp only[if_true,B9] at s;subst s
   have V:(grown fr k tag l m).fi k=fr.fi k+1:=by simp[grown,gK]
   rw[V] at I
   have J:ρ'.A k (fr.fi k+1)=some (b,c,sz):=by show sX ρ.A k (fr.fi k+1) (some (b,c,sz)) k (fr.fi k+1)=_;simp[sX]
   rw[J] at I;injection I with I;injection I with V J;injection J with J e3;subst V;subst J;subst e3;refine⟨hb,by show gK R b (.arr k) b=.arr k;simp[gK],⟨Z,hp⟩,hc,⟨vs,ty,X,Y,B⟩,λj hj=>?_⟩;show(if b=b/\j<us.length then us[j]?else F b j)=none;rw[dK VW];exact hF j
  ·simp only[dK y] at s
   have V:(grown fr d tag l m).fi k=fr.fi k:=by simp[grown,gK,y]
   rw[V] at I
   have J:ρ'.A k (fr.fi k)=ρ.A k (fr.fi k):=by show sX ρ.A d (fr.fi d+1) _ k (fr.fi k)=_;simp[sX,y]
   rw[J] at I
   have ah:fr.qh k=some m':=by
    unfold vH at s
    split at s
    ·simp only[gK] at s
     split at s
     ·cases s
     ·exact s
    ·exact s
   obtain⟨e3,e4,e5,ai,e6,e7⟩:=P.tok k m' ah f c' af I;exact⟨e3,by rw[r _ (by rw[e4];simp)];exact e4,e5,ai,e6,e7⟩
 ·intro f j v hf
  by_cases i:f=b
  ·subst i;intro U;show gK R f (.arr d) f≠_;simp[gK]
  ·have e:O f=R f:=by show gK R b (.arr d) f=R f;simp[gK,i]
   rw[e];exact P.qi f j v hf
 ·intro o ho;have:=h.n_ o ho;rw[r _ (by show R (ρ.G o)≠_;rw[this];simp)];exact this
 ·intro f i
  have W:f≠b:=by rintro rfl;have:=p1 X;omega
  show gK R b (.arr d) f=.free;simp only[gK,dK W];exact h.lz f i
end
section
variable{P:Program} {T:eN} {n:Nat} {G0:Nat->Nat} {F0:kM} {n0:Nat} {w0:World} {fr:Fr} {H:dY} {a:Act} {w:World}
def FB(w:World){t e:TypeId}{sz:Nat}(o:oi P t=some (e,sz))(ty:TypeId)(base:Option Addr)(a d:Nat)(f:List Value)(holds:f.length=a*sz)
  (D:base=none->a=0/\d=0) (F:∀l,base=some l->∀j v,f[j]?=some v->w.cell? (l.add j)=some v)
  (l:Addr) (m c:Nat) (news:List Value) (r:news.length=m*sz) (hn:∀j v,news[j]?=some v->w.cell? (l.add j)=some v) (n:d<a+m) (q:a+m<=kc):∃cap rest,a+m<=cap/\cap<=maxLen/\(∀u∈rest,u.oneCell'=true)/\(f++news++rest).length=cap*sz/\(Builtin.append_ #[t,t] ty #[.slice base a d,.slice (some l) m c]).run P w=.ok (.slice (some ⟨w.heap.size,0,none⟩) (a+m) cap) (w.drew.alloc (.cells (f++news++rest).toArray e)):=by
 obtain⟨i,z,hu,hi,s,x,y,A,C⟩:=m6 o;subst y;have k:a+m<=549755813888:=q
 have h:(a+m)*i.bytes<=140737488355328:=by
  have:=WI k A;omega
 have DW:a+m<=maxLen:=by simp only[maxLen];omega
 have B:=grownCap_ge w (a+m) d e;have hle:=grownCap_le_maxLen w (a+m) d e DW;refine⟨grownCap w (a+m) d e,(Builtin.zeroCells z.cells (grownCap w (a+m) d e-(a+m))).toList,B,hle,xA (O3 o hi s) VW _,?_,?_⟩
 ·simp only[ni,aeC,size_zeroCells,x,holds,r,<-C9]
  congr 1
  omega
 ·have G:(f++news++(Builtin.zeroCells z.cells (grownCap w (a+m) d e-(a+m))).toList).toArray=f.toArray++news.toArray++Builtin.zeroCells z.cells (grownCap w (a+m) d e-(a+m)):=by
   simp
  rw[G];cases base with
  |some b=>
   exact run_append_grow w t ty e i z hu hi s b a d f holds (F b rfl) l m c news r hn n VW (growslice_fits n h)
  |none=>
   obtain⟨rfl,rfl⟩:=D rfl;have:f=[]:=B_ (by simpa using holds);subst this;simp only[Aa] at n h k|-;have:=run_append_nil (P:=P) w t ty e i z hu hi s l m c news r hn VW VW VW;simpa using this
structure Qx (P:Program) (w:World) (t u e:TypeId) (sz k:Nat) (x:Value) (news:List Value) (ty:TypeId):Prop where
 none:k=0->∀(base:Option Addr) (len cap:Nat),len<=cap->(Builtin.append_ #[t,u] ty #[.slice base len cap,x]).run P w=.ok (.slice base len cap) w
 room:0<k->∀(g sLen sCap:Nat) (cur:Array Value) (e':TypeId),w.heap[g]?=some (.cells cur e' (0,0))->sLen+k<=sCap->sLen*sz+news.length<=cur.size->(Builtin.append_ #[t,u] ty #[.slice (some ⟨g,0,.none⟩) sLen sCap,x]).run P w=.ok (.slice (some ⟨g,0,.none⟩) (sLen+k) sCap) (w.setRow g (cur.toList.take (sLen*sz)++news++cur.toList.drop (sLen*sz+news.length)).toArray)
 grow:0<k->∀(base:Option Addr) (sLen sCap:Nat) (olds:List Value),olds.length=sLen*sz->(base=.none->sLen=0/\sCap=0)->(∀ad,base=some ad->∀j v,olds[j]?=some v->w.cell? (ad.add j)=some v)->sCap<sLen+k->sLen+k<=kc->∃cap rest,sLen+k<=cap/\cap<=maxLen/\(∀u∈rest,u.oneCell'=true)/\(olds++news++rest).length=cap*sz/\(Builtin.append_ #[t,u] ty #[.slice base sLen sCap,x]).run P w=.ok (.slice (some ⟨w.heap.size,0,.none⟩) (sLen+k) cap) (w.drew.alloc (.cells (olds++news++rest).toArray e))
def GR{ρ:Maps}{F:kM}{R:Nat->ou}(h:WR T n w0.heap.size ρ F R fr H a w)(hx:Ext w0.heap.size G0 F0 n0 w0 ρ.G F H.length w){d:Nat}{t u e ty:TypeId}{sz:Nat}{K:Fr->dY->Prop}{tag:Tag}{l m:List AV}{sv xv:Value}{B:List Value}
  (aG:oi P t=some (e,sz)) (aH:gG F ρ (.slice tag l) sv) (aI:la sz l=true) (src:Qx P w t u e sz m.length xv B ty) (r:hO F ρ.G ρ.n (m.flatMap AV.cells) B) (s:∀y∈m.flatMap AV.cells,y.gL=true)
  (N:∀y∈m,y.cells.length=sz) (aq:l.length+m.length<=kc) (O:d<n)
  (hK:if o5 fr tag l then K (grown fr d tag l m) H else m=[]/\K (fr.put (some d) (.slice .gI l)) H):∃v w' fr' H',(Builtin.append_ #[t,u] ty #[sv,xv]).run P w=.ok v w'/\K fr' H'/\SR T n G0 F0 n0 w0 fr' H' (a.put (some d) v) w':=by
 obtain⟨base,cap,b,o,aW,vs,aJ,f,ai,ar⟩:=nk aH;rw[aJ];obtain⟨i,z,hu,hi,hz,aX,aY,aZ,aU⟩:=m6 aG;have C:=re aI f.sz;have D:gQ F ρ.G ρ.n (.slice .gI l) (.slice base l.length cap):=.slice f.cells f.has f.base C f.sy f.Ca f.DW (.inl rfl)
 split at hK
 ·rename_i L
  have Q:tag=.full/\cap=l.length\/∃k g,tag=.loc k g/\g=fr.fi k/\fr.qh k=some l.length/\uY ρ k g l base cap:=by
   unfold o5 at L
   split at L
   ·cases L
   ·exact .inl ⟨rfl,ai rfl⟩
   ·rename_i k g;simp only[hD,ady] at L;exact .inr ⟨k,g,rfl,L.1,L.2,(ar k g rfl).2⟩
  by_cases hm:m=[]
  ·subst hm;obtain⟨ρ',R',hG,_,_,_,hw⟩:=h.rename O D Q;refine⟨_,_,_,_,src.none rfl _ _ _ f.Ca,hK,ρ',F,R',?_,by rw[hG];exact hx⟩;exact hw
  ·have S:B.length=m.length*sz:=by rw[<-r.length,n5 N]
   have J:vs.length=l.length*sz:=by rw[<-f.cells.length,n5 C]
   have U:0<m.length:=S6.2 hm
   by_cases I:l.length+m.length<=cap
   ·--in place
    rcases Q with⟨rfl,hc⟩|⟨k,g,rfl,hg,ht,Z⟩
    ·omega
    ·have M:=Z;unfold uY at M;cases X:ρ.A k g with
     |none=>rw[X] at M;simp only at M;omega
     |some p=>
      obtain⟨b3,c3,x⟩:=p;rw[X] at M;simp only at M;obtain⟨rfl,rfl,aK⟩:=M;rw[hg] at X;obtain⟨t1,t2,t3,a1,⟨cur,aL,t4,t5,a6⟩,t6⟩:=h.tok k _ ht b3 cap x X;have ak:∀u∈B,u.oneCell'=true:=jD (r.qw.mono λ_ _ _ h=>jN.p h) s
      have ae:l≠[]:=by rintro rfl;exact absurd t3.1 aa2
      have aw:x=sz:=by
       cases l with
       |nil=>exact absurd rfl ae|cons y ys=>rw[<-aK y aa2,C y aa2]
      subst aw;obtain⟨ρ',R',hG,ax,ay,az,hw⟩:=h.rename O D (tag:=.loc k g) (.inr ⟨k,g,rfl,hg,ht,Z⟩)
      have an:ρ'.A d ((grown fr d (.loc k g) l []).fi d)=some (b3,cap,x):=by
       have e:(grown fr d (.loc k g) l []).fi d=fr.fi d+1:=by simp[grown,gK]
       rw[e,ay k g rfl,hg];exact X
      have aA:(grown fr d (.loc k g) l []).qh d=some l.length:=by simp[grown,gK]
      obtain⟨F',aB,Y,aC,aM⟩:=hw.extend aA an S I ak t4
      have aN:b=b3/\o=0:=by
       have:=f.base ae;injection this with this;injection this with e1 e2;exact⟨e1.symm,e2.symm⟩
      obtain⟨rfl,rfl⟩:=aN
      have V:=src.room U b l.length cap cur aL t4 I (by
       rw[S,<-C9,t5];exact Km _ I)
      have aD:gG F' ρ' (.slice (.loc d (fr.fi d+1)) (l++m)) (.slice (some ⟨b,0,none⟩) (l.length+m.length) cap):=by
       have hlen:(l++m).length=l.length+m.length:=ni
       have aE:F'.has b 0 (vs++B):=by
        intro q v W;rcases vh q vs.length with hq|hq
        ·rw[vE hq] at W;exact aB.g.mF _ _ _ (f.has q v W)
        ·rw[tE hq] at W;have:=aC _ v W;rw[J] at hq this;rw[show l.length*x+(q-l.length*x)=0+q by omega] at this;exact this
       have af:∀y∈l++m,y.cells.length=x:=by
        intro y hy;rcases sU.1 hy with hy|hy
        ·exact C y hy
        ·exact N y hy
       have aO:=gQ.slice (F:=F') (G:=ρ'.G) (n:=ρ'.n) (tag:=.gI) (l:=l++m) (b:=b) (o:=0) (base:=some ⟨b,0,none⟩) (cap:=cap) (sz:=x) (vs:=vs++B)
        (by
         rw[VJ,hG,ax];have aF:=aB.g;rw[hG,ax] at aF
         exact(f.cells.append r).grow aF) aE (λ_=>rfl) af (by
         intro y hy;rw[VJ] at hy;rcases sU.1 hy with hy|hy
         ·exact f.sy y hy
         ·exact s y hy) VW f.DW (.inl rfl)
       rw[<-hlen];refine .cell (.loc aO (by rw[az];exact gY _) ?_);unfold uY
       have e:ρ'.A d (fr.fi d+1)=some (b,cap,x):=by rw[ay k g rfl,hg];exact X
       rw[e];exact⟨rfl,rfl,af⟩
      have ah:=aM.put (d:=some d) (λ_ hh=>by cases hh;exact O) aD;refine⟨_,_,_,_,V,hK,ρ',F',R',?_,?_⟩
      ·have e1:({(grown fr d (.loc k g) l [])with qh:=gK (grown fr d (.loc k g) l []).qh d (some (l.length+m.length))}:Fr).put (some d) (.slice (.loc d (fr.fi d+1)) (l++m))=grown fr d (.loc k g) l m:=by
        simp only[grown,Fr.put,Mv]
       have e2:(a.put (some d) (.slice (some ⟨b,0,none⟩) l.length cap)).put (some d) (.slice (some ⟨b,0,none⟩) (l.length+m.length) cap)=a.put (some d) (.slice (some ⟨b,0,none⟩) (l.length+m.length) cap):=by
        simp[Act.put]
       rw[e1,e2] at ah;exact ah
      ·rw[hG];exact(hx.setRow (.inl t1) _).freeze λb' j aP=>Y b' j VW
   ·--a new row
    have aQ:base=none->l.length=0/\cap=0:=by
     rintro rfl
     have ao:l=[]:=by
      rcases acT l with h'|⟨_,_,h'⟩
      ·exact h'
      ·have:=f.base (by rw[h'];simp);cases this
     subst ao;refine⟨rfl,?_⟩;rcases Q with⟨_,hc⟩|⟨k,g,rfl,hg,ht,Z⟩
     ·simpa using hc
     ·unfold uY at Z;cases X:ρ.A k g with
      |none=>rw[X] at Z;simpa using Z
      |some p=>
       obtain⟨b3,c3,x⟩:=p;rw[X] at Z;cases Z.1
    have aR:∀ad,base=some ad->∀(j:Nat) (v:Value),vs[j]?=some v->w.cell? (ad.add j)=some v:=by
     intro ad aS j v W
     have ao:l≠[]:=by
      rintro rfl;have:vs=[]:=B_ (by rw[J];simp);subst this;simp at W
     have:=f.base ao;rw[aS] at this;injection this with this;subst this;rw[Addr.add_lit];exact h.g.GK b _ v (f.has j v W)
    obtain⟨c',rest,r1,r2,r0,r3,V⟩:=src.grow U base l.length cap vs J aQ aR VW aq;have aT:=h.drew.alloc (.cells (vs++B++rest).toArray e);have aV:w.drew.heap.size=w.heap.size:=rfl
    obtain⟨ρ',R',hG,hw⟩:=aT.VV (b:=w.heap.size) (us:=vs++B) (c:=c') (sz:=sz) (tag:=tag) (l:=l) (m:=m) O h.qq (h.lz _ (gY _)) (λj=>h.g.fresh _ j (gY _))
     (heap_alloc_new w.drew _) (by
      intro u hu;simp only[sU] at hu;rcases hu with(hu|hu)|hu
      ·exact jD (f.cells.qw.mono λ_ _ _ h=>jN.p h) f.sy u hu
      ·exact jD (r.qw.mono λ_ _ _ h=>jN.p h) s u hu
      ·exact r0 u hu) (by simpa using r3) VW r1 r2 (by rw[ni,J,S,C9]) (by
      intro j v W;have hj:=(sY.1 W).1;simp only[ahX];rw[vE hj]
      exact W) (by rw[VJ];exact f.cells.append r) (by
      intro y hy;rw[VJ] at hy;rcases sU.1 hy with hy|hy
      ·exact f.sy y hy
      ·exact s y hy) (by
      intro y hy;rcases sU.1 hy with hy|hy
      ·exact C y hy
      ·exact N y hy)
    refine⟨_,_,_,_,V,hK,ρ',_,R',hw,?_⟩;rw[hG];exact((hx.drew.alloc h.qq _).freeze λb' j aP=>ui (by have:=h.qq;omega))
 ·obtain⟨rfl,hK⟩:=hK;refine⟨_,_,_,_,src.none rfl _ _ _ f.Ca,hK,ρ,F,R,?_,hx⟩;exact h.put (λ_ hh=>by cases hh;exact O) (.p D)
def Mz{t e:TypeId}{sz:Nat}(f:oi P t=some (e,sz))(ty:TypeId){base:Option Addr}{m cap b o:Nat}{news:List Value}(A:0<m->base=some ⟨b,o,none⟩)(B:news.length=m*sz)
  (hn:∀j v,news[j]?=some v->w.cell? ((⟨b,o,none⟩:Addr).add j)=some v) (J:∀u∈news,u.oneCell'=true):Qx P w t t e sz m (.slice base m cap) news ty where
 none C a len h D:=Hc w f ty a len h D _ ⟨base,cap,by rw[C]⟩
 room s g c d cur K hg n x:=by
  obtain⟨i,z,hu,hi,L,F,G,H,y⟩:=m6 f
  grind[yc]
 grow s a c d k holds q I r l:=by
  rw[A s];exact FB w f ty a c d k holds q I ⟨b,o,.none⟩ m cap news B hn r l
def MG{ρ:Maps}{F:kM}{R:Nat->ou}(h:WR T n w0.heap.size ρ F R fr H a w)(U:Ext w0.heap.size G0 F0 n0 w0 ρ.G F H.length w){c:Call}{dst:Option Nat}{ty:TypeId}{K:Fr->dY->Prop}
  (k:m_ P T c dst K fr H) (V:∀d,dst=some d->d<n) (r:∀x∈c.args.toList,jg x=true):∃v w' fr' H',(Builtin.append_ c.argTypes ty (c.args.map a.eval)).run P w=.ok v w'/\K fr' H'/\SR T n G0 F0 n0 w0 fr' H' (a.put dst v) w':=by
 unfold m_ at k
 split at k
 ·rename_i d s x t W i u;have D:=V d rfl;have X:c.argTypes=#[t,W]:=F7.1 (by rw[u]);have Y:c.args.map a.eval=#[a.eval s,a.eval x]:=F7.1 (by rw[Pp,i];rfl);rw[X,Y];have y:=gD h.env h.iq s (r s (by rw[i];simp));have A:=gD h.env h.iq x (r x (by rw[i];simp))
  split at k
  ·rename_i e sz tag l O m B hs I;obtain⟨rfl,J,L,C,k⟩:=k;rw[hs] at y;rw[I] at A;obtain⟨M,Q,S,o2,Z,ad,N,f,_,_⟩:=nk A;have q:=re L f.sz;rw[N]
   exact GR h U B y J (Mz B ty (b:=S) (o:=o2) (λhp=>f.base (S6.1 hp)) (by rw[<-f.cells.length,n5 q]) (λj v hv=>by
    rw[Addr.add_lit]
    exact h.g.GK S _ v (f.has j v hv)) (jD (f.cells.qw.mono λ_ _ _ h=>jN.p h) f.sy)) f.cells f.sy q C D k
  ·exact k.elim
 ·exact k.elim
def qg(s:ByteArray):List AV:=s.data.toList.map λb=>AV.sc (.int .u8 (b.toNat:Int))
def EI(P:Program)(T:eN)(c:Call)(dst:Option Nat)(K:Fr->dY->Prop)(fr:Fr)(H:dY):Prop:=
 match dst,c.args.toList,c.argTypes.toList with
 |some d,[s,x],[t,a]=>
  match oi P t,P.underlying a,ev T fr s,ev T fr x with
  |some (_,sz),some .string,.slice tag l,.sc (.string y)=>
   sz=1/\la 1 l=true/\l.length+y.size<=kc/\(if o5 fr tag l then K (grown fr d tag l (qg y)) H else qg y=[]/\K (fr.put (some d) (.slice .gI l)) H)
  |_,_,_,_=>False
 |_,_,_=>False
def Q5{t u e:TypeId}(j:oi P t=some (e,1))(d:P.underlying u=some .string)(ty:TypeId)(s:ByteArray):Qx P w t u e 1 s.size (.string s) (Lib.strCells s) ty where
 none v base len cap F:=by
  obtain⟨i,z,hu,hi,x,n,k,o,l⟩:=m6 j;have y:=Lib.run_firstCells_string (P:=P) w i.size s;have hn:Lib.strCells s=[]:=B_ (by rw[Lib.strCells_length];exact v);rw[v,hn] at y;cases base with
  |none=>simp[Builtin.append_,run_underlying hu,run_underlying d,sizeOf,typeInfo,hi,Builtin.lenOf,v,F,y]|some N=>simp[Builtin.append_,run_underlying hu,run_underlying d,sizeOf,typeInfo,hi,Builtin.lenOf,v,F,y,storeCells]
 room H g a c cur I hg q A:=by
  obtain⟨i,z,hu,hi,x,n,k,o,l⟩:=m6 j;have y:=Lib.run_firstCells_string (P:=P) w 1 s;have B:=run_storeCells_at P g (a*1) I (Lib.strCells s) 0 cur w hg (by simpa using A) (Lib.strCells_oneCell s);simp only[F2,Nat.mul_one] at B;simp[Builtin.append_,run_underlying hu,run_underlying d,sizeOf,typeInfo,hi,k,Builtin.lenOf,q,y,Addr.add_lit,B]
 grow H base a c f holds J K C D:=by
  obtain⟨i,z,hu,hi,x,n,k,o,l⟩:=m6 j;have r:a+s.size<=549755813888:=D
  have h:(a+s.size)*i.bytes<=140737488355328:=by
   have:=WI r o;omega
  have DW:a+s.size<=maxLen:=by simp only[maxLen];omega
  refine⟨grownCap w (a+s.size) c e,(Builtin.zeroCells z.cells (grownCap w (a+s.size) c e-(a+s.size))).toList,grownCap_ge w (a+s.size) c e,grownCap_le_maxLen w (a+s.size) c e DW,xA (O3 j hi x) VW _,?_,?_⟩
  ·have:=grownCap_ge w (a+s.size) c e;simp only[ni,aeC,size_zeroCells,n,holds,Lib.strCells_length];omega
  ·have L:(f++Lib.strCells s++(Builtin.zeroCells z.cells (grownCap w (a+s.size) c e-(a+s.size))).toList).toArray=f.toArray++(Lib.strCells s).toArray++Builtin.zeroCells z.cells (grownCap w (a+s.size) c e-(a+s.size)):=by
    apply F7.1;simp
   rw[L];cases base with
   |some b=>exact Lib.run_append_grow_string w t u ty e i z hu d hi x b a c f (by rw[k];exact holds) (K b rfl) s C VW (growslice_fits C h)|none=>
    obtain⟨rfl,rfl⟩:=J rfl;have v:f=[]:=B_ (by simpa using holds);subst v;have G:=run_append_nil_string (P:=P) w t u ty e i z hu d hi x s VW VW (by rw[Aa] at h;omega)
    have M:(s.data.map λb=>Value.int .u8 b.toNat)=(Lib.strCells s).toArray:=by
     apply Array.ext';simp[Lib.strCells]
    rw[M] at G;simpa using G
def Ci(s:ByteArray):(qg s).flatMap AV.cells=(Lib.strCells s).map AV.sc:=by
 unfold qg Lib.strCells
 induction s.data.toList with
 |nil=>rfl|cons b l ih=>simp only[oe,Iu,ih];rfl
def wy{F:kM}{G:Nat->Nat}{k:Nat}:∀(L:List Value),(∀v∈L,y0 v=true)->hO F G k (L.map AV.sc) L
 |[],_=>.nil|v::L,h=>.cons (.sc (h v aa2)) (wy L λx a=>h x (by simp[a]))
def Kj{ρ:Maps}{F:kM}{R:Nat->ou}(h:WR T n w0.heap.size ρ F R fr H a w)(J:Ext w0.heap.size G0 F0 n0 w0 ρ.G F H.length w){c:Call}{dst:Option Nat}{ty:TypeId}{K:Fr->dY->Prop}
  (i:EI P T c dst K fr H) (L:∀d,dst=some d->d<n) (j:∀x∈c.args.toList,jg x=true):∃v w' fr' H',(Builtin.append_ c.argTypes ty (c.args.map a.eval)).run P w=.ok v w'/\K fr' H'/\SR T n G0 F0 n0 w0 fr' H' (a.put dst v) w':=by
 unfold EI at i
 split at i
 ·rename_i d s x t M f k;have C:=L d rfl;have N:c.argTypes=#[t,M]:=F7.1 (by rw[k]);have O:c.args.map a.eval=#[a.eval s,a.eval x]:=F7.1 (by rw[Pp,f];rfl);rw[N,O];have o:=gD h.env h.iq s (j s (by rw[f];simp));have q:=gD h.env h.iq x (j x (by rw[f];simp))
  split at i
  ·rename_i e sz tag l y r u hs D;obtain⟨rfl,I,A,i⟩:=i;rw[hs] at o;rw[D] at q;rw[gi q]
   have hlen:(qg y).length=y.size:=by simp[qg]
   have Q:hO F ρ.G ρ.n ((qg y).flatMap AV.cells) (Lib.strCells y):=by
    rw[Ci];refine wy _ λv S=>?_;obtain⟨b,_,rfl⟩:=qp.1 S;rfl
   have U:∀c∈(qg y).flatMap AV.cells,c.gL=true:=λc B=>by
    rw[Ci] at B;obtain⟨v,_,rfl⟩:=qp.1 B;rfl
   have c3:∀c∈qg y,c.cells.length=1:=λc B=>by
    obtain⟨b,_,rfl⟩:=qp.1 B;rfl
   exact GR h J r o I (by rw[hlen];exact Q5 r u ty y) Q U c3 (by rw[hlen];exact A) C i
  ·exact i.elim
 ·exact i.elim
end
end Go.kY
namespace Go.kY
open Go
def j6(P:Program)(t:TypeId):Option (List AV):=
 match zeroOf P t with
 |some z=>if zh z=true/\fw (ofValue z) then some (ofValue z).cells else none|none=>none
theorem Lh{P:Program}{t:TypeId}{cs:List AV}(h:j6 P t=some cs):∃z,zeroOf P t=some z/\zh z=true/\fw (ofValue z)=true/\cs=(ofValue z).cells:=by grind[j6]
def zt(fr:Fr)(d:Nat)(cells:List AV)(len cap:Nat):Fr:=
 {fr with env:=gK fr.env d (.xO d (fr.gen d+1) len cap),box:=gK fr.box d (some cells),gen:=gK fr.gen d (fr.gen d+1)}
def zq(n:Nat):List AV:=List.replicate n .undef
def ES(P:Program)(T:eN)(c:Call)(dst:Option Nat)(K:Fr->dY->Prop)(fr:Fr)(H:dY):Prop:=
 match dst,c.args.toList,c.argTypes.toList with
 |some d,[s,x],[t,f]=>
  match oi P t,ev T fr x with
  |some (e,sz),.slice _ m=>
   f=t/\la sz m=true/\(j6 P e).isSome=true/\0<m.length/\match ev T fr s with
   |.slice .full l=>la sz l=true/\l.length+m.length<=kc/\∀cap,l.length+m.length<=cap->K (zt fr d (l.flatMap AV.cells++m.flatMap AV.cells++zq ((cap-(l.length+m.length))*sz)) (l.length+m.length) cap) H|.xO b g len cap=>g=fr.gen b/\len+m.length<=kc/\match fr.box b with
    |some cs=>cs.length=cap*sz/\(len+m.length<=cap->K {fr with env:=gK fr.env d (.xO b g (len+m.length) cap),box:=gK fr.box b (some (setCells cs (len*sz) (m.flatMap AV.cells)))} H)/\(∀a,cap<len+m.length->len+m.length<=a->K (zt fr d (cs.take (len*sz)++m.flatMap AV.cells++zq ((a-(len+m.length))*sz)) (len+m.length) a) H)|none=>False
   |_=>False
  |_,_=>False
 |_,_,_=>False
section
variable{P:Program} {T:eN} {n:Nat} {G0:Nat->Nat} {F0:kM} {n0:Nat} {w0:World} {fr:Fr} {H:dY} {a:Act} {w:World}
def NK{e:TypeId}(h:(j6 P e).isSome=true){i:TypeInfo}{z:Value}(hi:P.info? e=some i)(a:i.zero=some z):∀u∈z.cells.toList,u.oneCell'=true:=by grind[j6,Lh,zeroOf,Cn,ofValue,fw]
def nQ(w:World){t e:TypeId}{sz:Nat}(q:oi P t=some (e,sz))(r:(j6 P e).isSome=true)(ty:TypeId)(base:Option Addr)(a d:Nat)(f:List Value)(holds:f.length=a*sz)
  (F:base=none->a=0/\d=0) (G:∀l,base=some l->∀j v,f[j]?=some v->w.cell? (l.add j)=some v)
  (l:Addr) (m c:Nat) (news:List Value) (C:news.length=m*sz) (hn:∀j v,news[j]?=some v->w.cell? (l.add j)=some v) (n:d<a+m) (o:a+m<=kc):∃cap rest,a+m<=cap/\cap<=maxLen/\rest.length=(cap-(a+m))*sz/\(∀u∈rest,u.oneCell'=true)/\(Builtin.append_ #[t,t] ty #[.slice base a d,.slice (some l) m c]).run P w=.ok (.slice (some ⟨w.heap.size,0,none⟩) (a+m) cap) (w.drew.alloc (.cells (f++news++rest).toArray e)):=by
 obtain⟨i,z,hu,hi,s,x,y,A,D⟩:=m6 q;subst y;have k:a+m<=549755813888:=o
 have h:(a+m)*i.bytes<=140737488355328:=by
  have:=WI k A;omega
 have DW:a+m<=maxLen:=by simp only[maxLen];omega
 have B:=grownCap_ge w (a+m) d e;have hle:=grownCap_le_maxLen w (a+m) d e DW;refine⟨grownCap w (a+m) d e,(Builtin.zeroCells z.cells (grownCap w (a+m) d e-(a+m))).toList,B,hle,?_,xA (NK r hi s) VW _,?_⟩
 ·simp only[aeC,size_zeroCells,x]
 ·have H:(f++news++(Builtin.zeroCells z.cells (grownCap w (a+m) d e-(a+m))).toList).toArray=f.toArray++news.toArray++Builtin.zeroCells z.cells (grownCap w (a+m) d e-(a+m)):=by
   apply F7.1;simp
  rw[H];cases base with
  |some b=>
   exact run_append_grow w t ty e i z hu hi s b a d f holds (G b rfl) l m c news C hn n VW (growslice_fits n h)
  |none=>
   obtain⟨rfl,rfl⟩:=F rfl;have:f=[]:=B_ (by simpa using holds);subst this;simp only[Aa] at n h k|-;have:=run_append_nil (P:=P) w t ty e i z hu hi s l m c news C hn VW VW VW;simpa using this
def IZ{F:kM}{ρ:Maps}:∀{rest:List Value} {k:Nat},rest.length=k->(∀u∈rest,u.oneCell'=true)->hQ (jN F ρ) (zq k) rest
 |[],k,h,_=>by cases h;exact .nil
 |u::rest,k,h,a=>by
  cases h;exact .cons (.p (.undef (a u aa2))) (IZ rfl λv b=>a v (by simp[b]))
def yB(k:Nat):∀c∈zq k,c.gL=true:=by
 intro c a;rw[List.eq_of_mem_replicate a];rfl
def WR.Vk{ρ:Maps}{F:kM}{R:Nat->ou}(h:WR T n w0.heap.size ρ F R fr H a w)(s:Ext w0.heap.size G0 F0 n0 w0 ρ.G F H.length w){d len cap:Nat}(l:d<n){cells:List AV}{vs:Array Value}(ty:TypeId)
  (o:hQ (jN F ρ) cells vs.toList) (i:∀c∈cells,c.gL=true) (hlen:len<=cap) (Ca:cap<=maxLen):SR T n G0 F0 n0 w0 (zt fr d cells len cap) H (a.put (some d) (.slice (some ⟨w.heap.size,0,none⟩) len cap)) (w.drew.alloc (.cells vs ty)):=by
 have t:=h.drew.alloc (.cells vs ty);have k:(w.drew.alloc (.cells vs ty)).heap[w.drew.heap.size]?=some (.cells vs ty (0,0)):=heap_alloc_new w.drew _;have u:w.drew.heap.size=w.heap.size:=rfl;have f:R w.drew.heap.size=.free:=h.lz _ (gY _);have hF:∀j,F w.drew.heap.size j=none:=λj=>h.g.fresh _ j (gY _);obtain⟨ρ',y,hG,hw⟩:=t.acy h.qq f hF k o i l;have A:=hw.box d cells (by simp[gK])
 have B:ρ'.L d (fr.gen d+1)=w.heap.size:=by
  have he:=hw.env d
  have q:({fr with env:=gK fr.env d (.h9 d (fr.gen d+1) 0),box:=gK fr.box d (some cells),gen:=gK fr.gen d (fr.gen d+1)}:Fr).env d=.h9 d (fr.gen d+1) 0:=by simp[gK]
  rw[q,OE a (some d) _ d (by intro C he;injection he with he;subst he;rw[h.size];exact l),dR rfl] at he;have:=(vM he).1;injection this with this;injection this with this;injection this with this;exact this.symm
 have r:fr.gen d+1<=ρ'.lg d:=by
  rw[hw.lg d];simp[gK]
 have P2:=hw.put (d:=some d) (by intro C he;injection he with he;subst he;exact l) (x:=.xO d (fr.gen d+1) len cap) (v:=.slice (some ⟨w.heap.size,0,none⟩) len cap) (by
  have:=jN.xO (F:=F) (ρ:=ρ') (b:=d) (g:=fr.gen d+1) r hlen Ca;rw[B] at this
  exact .cell this)
 refine⟨ρ',F,y,?_,?_⟩
 ·have q:(({fr with env:=gK fr.env d (.h9 d (fr.gen d+1) 0),box:=gK fr.box d (some cells),gen:=gK fr.gen d (fr.gen d+1)}:Fr).put (some d) (.xO d (fr.gen d+1) len cap))=zt fr d cells len cap:=by
   simp only[zt,Fr.put,Mv]
  have D:(a.put (some d) (.pointer (some ⟨w.heap.size,0,none⟩))).put (some d) (.slice (some ⟨w.heap.size,0,none⟩) len cap)=a.put (some d) (.slice (some ⟨w.heap.size,0,none⟩) len cap):=by
   simp[Act.put]
  rw[q,D] at P2;exact P2
 ·rw[hG];exact(s.drew).alloc h.qq _
def Ki{ρ:Maps}{F:kM}{R:Nat->ou}(h:WR T n w0.heap.size ρ F R fr H a w)(hx:Ext w0.heap.size G0 F0 n0 w0 ρ.G F H.length w){c:Call}{dst:Option Nat}{ty:TypeId}{K:Fr->dY->Prop}
  (y:ES P T c dst K fr H) (hd:∀d,dst=some d->d<n) (ar:∀x∈c.args.toList,jg x=true):∃v w' fr' H',(Builtin.append_ c.argTypes ty (c.args.map a.eval)).run P w=.ok v w'/\K fr' H'/\SR T n G0 F0 n0 w0 fr' H' (a.put dst v) w':=by
 unfold ES at y
 split at y
 ·rename_i d s x t t' A aw;have W:=hd d rfl;have e1:c.argTypes=#[t,t']:=F7.1 (by rw[aw]);have e2:c.args.map a.eval=#[a.eval s,a.eval x]:=F7.1 (by rw[Pp,A];rfl);rw[e1,e2];have S:=gD h.env h.iq s (ar s (by rw[A];simp));have ax:=gD h.env h.iq x (ar x (by rw[A];simp))
  split at y
  ·rename_i e sz aT m X aF;obtain⟨rfl,aG,ay,Y,y⟩:=y;rw[aF] at ax;obtain⟨aH,D,b2,o2,aX,k,aI,f,_,_⟩:=nk ax;have hm:m≠[]:=S6.1 Y;have az:=re aG f.sz;have U:=f.base hm
   have B:∀j v,k[j]?=some v->w.cell? ((⟨b2,o2,none⟩:Addr).add j)=some v:=by
    intro j v Q;rw[Addr.add_lit];exact h.g.GK b2 _ v (f.has j v Q)
   have I:k.length=m.length*sz:=by rw[<-f.cells.length,n5 az]
   have J:hQ (jN F ρ) (m.flatMap AV.cells) k:=f.cells.qw.mono λ_ _ _ h=>.p h;have Z:∀u∈k,u.oneCell'=true:=jD J f.sy;obtain⟨i,z,hu,hi,hz,aY,ae,aZ,aU⟩:=m6 X;rw[aI,U]
   split at y
   ·--a new row
    rename_i l hs;obtain⟨aJ,M,y⟩:=y;rw[hs] at S;obtain⟨base,cap,b,o,a1,vs,af,C,ah,_⟩:=nk S;rw[af];have Ca:cap=l.length:=ah rfl;have aA:=re aJ C.sz
    have V:vs.length=l.length*sz:=by rw[<-C.cells.length,n5 aA]
    have aK:base=none->l.length=0/\cap=0:=by
     rintro rfl
     have aL:l=[]:=by
      rcases acT l with h'|⟨_,_,h'⟩
      ·exact h'
      ·have:=C.base (by rw[h'];simp);cases this
     subst aL;exact⟨rfl,Ca⟩
    have ho:∀ad,base=some ad->∀j v,vs[j]?=some v->w.cell? (ad.add j)=some v:=by
     intro ad ai j v Q
     have aB:l≠[]:=by
      rintro rfl;have:vs=[]:=B_ (by simpa using V);rw[this] at Q;simp at Q
     have:=C.base aB;rw[ai] at this;obtain rfl:=kR this;rw[Addr.add_lit];exact h.g.GK b _ v (C.has j v Q)
    obtain⟨N,rest,O,ak,an,ao,q⟩:=nQ w X ay ty base l.length cap vs V aK ho ⟨b2,o2,none⟩ m.length D k I B VW M;refine⟨_,_,_,_,q,y N O,h.Vk hx W e ?_ ?_ O ak⟩
    ·simp only;exact((C.cells.qw.mono λ_ _ _ h=>jN.p h).append J).append (IZ an ao)
    ·intro c hc;simp only[sU] at hc;rcases hc with(hc|hc)|hc
     ·exact C.sy c hc
     ·exact f.sy c hc
     ·exact yB _ c hc
   ·--a row of a6 aC own
    rename_i b g len cap hs;obtain⟨hg,M,y⟩:=y;rw[hs] at S;obtain⟨af,aM,aN,aO⟩:=AM S;rw[af]
    split at y
    ·rename_i cs hb;obtain⟨aP,aQ,aR⟩:=y;obtain⟨b1,aS,b3,cur,J0,b4,b5⟩:=h.box b cs hb;rw[<-hg] at b1 aS b4
     have aV:cur.size=cap*sz:=by rw[<-aP];simpa using b5.length.symm
     have hle:len*sz<=cap*sz:=Km _ aN
     by_cases r:len+m.length<=cap
     ·have aW:len*sz+m.length*sz<=cap*sz:=by rw[<-C9];exact Km _ r
      have q:=yc (P:=P) w t' ty e J0 i hu hi (ρ.L b g) len cap cur b4 ⟨b2,o2,none⟩ m.length D k (by rw[ae];exact I) B Z r (by rw[ae];omega);rw[ae] at q;have gk:=b5.setCells J (len*sz);have aD:(m.flatMap AV.cells).length=k.length:=J.length
      have aq:∀c∈setCells cs (len*sz) (m.flatMap AV.cells),c.gL=true:=by
       intro c hc;simp only[setCells,sU] at hc;rcases hc with(hm|hm)|hm
       ·exact b3 c (Db hm)
       ·exact f.sy c hm
       ·exact b3 c (Fj hm)
      have aE:=h.Vr hb (vs':=(cur.toList.take (len*sz)++k++cur.toList.drop (len*sz+k.length)).toArray) (by rw[<-aD];simpa[aD] using gk) aq;rw[<-hg] at aE;have P2:=aE.put (d:=some d) (by intro d' he;injection he with he;subst he;exact W) (x:=.xO b g (len+m.length) cap) (v:=.slice (some ⟨ρ.L b g,0,none⟩) (len+m.length) cap) (.cell (.xO aM r aO));refine⟨_,_,_,_,q,aQ r,ρ,F,R,P2,hx.setRow (.inl b1) _⟩
     ·have ho:∀ad,some (⟨ρ.L b g,0,none⟩:Addr)=some ad->∀j v,(cur.toList.take (len*sz))[j]?=some v->w.cell? (ad.add j)=some v:=by
       intro ad ai j v Q;obtain rfl:=kR ai;rw[Addr.add_lit,Aa,cell_of_row w _ _ cur J0 (0,0) b4];rw[Qq] at Q
       split at Q
       ·simpa using Q
       ·cases Q
      obtain⟨N,rest,O,ak,an,ao,q⟩:=nQ w X ay ty (some ⟨ρ.L b g,0,none⟩) len cap (cur.toList.take (len*sz)) acx (by intro h;cases h) ho ⟨b2,o2,none⟩ m.length D k I B VW M;refine⟨_,_,_,_,q,aR N VW O,h.Vk hx W e ?_ ?_ O ak⟩
      ·simp only;exact((b5.take _).append J).append (IZ an ao)
      ·intro c hc;simp only[sU] at hc;rcases hc with(hc|hc)|hc
       ·exact b3 c (Db hc)
       ·exact f.sy c hc
       ·exact yB _ c hc
    ·exact y.elim
   ·exact y.elim
  ·exact y.elim
 ·exact y.elim
end
end Go.kY
namespace Go.kY
open Go Go.MapKept
def Jk:TypeDesc->Value->Bool
 |.bool,.bool _=>true|.int k,.int k' _=>k'==k|.string,.string _=>true|_,_=>false
def VT:Value->Value->Bool
 |.bool a,.bool b=>a==b|.int _ a,.int _ b=>a==b|.string a,.string b=>a==b|_,_=>false
theorem wN{d:TypeDesc}{v:Value}(h:Jk d v=true):IsKey d v:=by
 unfold Jk at h
 split at h<;>simp_all [IsKey]
def Gk{d:TypeDesc}{a b:Value}(c:IsKey d a)(f:IsKey d b):VT a b=true↔a=b:=by
 cases d<;>cases a<;>cases b<;>simp_all [IsKey,VT,bytes_beq]
def mapIdx(ks:List Value)(k:Value):Option Nat:=ks.findIdx? (λx=>VT x k)
def A2{d:TypeDesc}{k:Value}(f:IsKey d k):∀{ks:List Value} {j:Nat},(∀x∈ks,IsKey d x)->ks.Nodup->ks[j]?=some k->mapIdx ks k=some j
 |[],j,_,_,h=>by simp at h
 |x::ks,j,a,hn,h=>by
  have b:=a x aa2;unfold mapIdx;rw[afs];cases j with
  |zero=>
   simp at h;subst h;rw[dR ((Gk b b).2 rfl)]
  |succ j=>
   simp at h
   have c:x≠k:=by
    rintro rfl;exact(U9.1 hn).1 (Hb h)
   rw[dK (λe=>c ((Gk b f).1 e))];have:=A2 f (λy i=>a y (by simp[i])) (U9.1 hn).2 h;unfold mapIdx at this;rw[this];rfl
def AI{d:TypeDesc}{k:Value}(c:IsKey d k):∀{ks:List Value},(∀x∈ks,IsKey d x)->(∀x∈ks,x≠k)->mapIdx ks k=none
 |[],_,_=>rfl|x::ks,a,h=>by
  unfold mapIdx;rw[afs,dK (λe=>h x aa2 ((Gk (a x aa2) c).1 e))];have:=AI c (ks:=ks) (λy b=>a y (by simp[b])) (λy b=>h y (by simp[b]))
  grind[mapIdx]
def OZ(P:Program)(t:TypeId):Option AV:=
 match zeroOf P t with
 |some z=>if zh z=true/\fw (ofValue z) then some (ofValue z).norm else none|none=>none
def vD(P:Program)(H:dY)(t:TypeId)(x i:AV)(ok:Bool):Option AV:=
 match P.underlying t,x,i with
 |some (.map kt e),.nx o,.sc k=>
  match P.underlying kt,H[o]?,OZ P e with
  |some d,some [.uH ks xs],some z=>
   if Jk d k=true/\ks.all (Jk d) then
    match mapIdx ks k with
    |some j=>(xs[j]?).map λv=>if ok then .tuple [v,.sc (.bool true)] else v|none=>some (if ok then .tuple [z,.sc (.bool false)] else z)
   else none
  |_,_,_=>none
 |_,_,_=>none
def F5(ks:List Value)(xs:List AV)(k:Value)(v:AV):AV:=
 match mapIdx ks k with
 |some j=>.uH ks (xs.set j v)|none=>.uH (ks++[k]) (xs++[v])
def sh(P:Program)(t:TypeId)(x i v:AV)(K:Fr->dY->Prop)(fr:Fr)(H:dY):Prop:=
 match P.underlying t,x,i with
 |some (.map kt _),.nx o,.sc k=>
  match P.underlying kt,H[o]?with
  |some d,some [.uH ks xs]=>Jk d k=true/\ks.all (Jk d)=true/\K fr (H.set o [F5 ks xs k v.norm])|_,_=>False
 |_,_,_=>False
def Ib(dst:Option Nat)(K:Fr->dY->Prop)(fr:Fr)(H:dY):Prop:=K (fr.put dst (.nx H.length)) (H++[[.uH [] []]])
def IF(P:Program)(t:TypeId)(x:AV)(dst:Option Nat)(K:Fr->dY->Prop)(fr:Fr)(H:dY):Prop:=
 match P.underlying t,x with
 |some (.map _ _),.nx o=>
  match H[o]?with
  |some [.uH ks _]=>K (fr.put dst (.fb H.length 0)) (H++[[.mw o ks.length []]])|_=>False
 |_,_=>False
def LJ(x:AV)(dst:Option Nat)(K:Fr->dY->Prop)(fr:Fr)(H:dY):Prop:=
 match x with
 |.fb i 0=>
  match H[i]?with
  |some [.mw o since seen]=>
   match H[o]?with
   |some [.uH ks xs]=>ks.length=since/\ks.all y0=true/\((∀j,j<ks.length->j∈seen)->K (fr.put dst (.tuple [.sc (.bool false)])) H)/\∀j k v,ks[j]?=some k->xs[j]?=some v->j∉seen->K (fr.put dst (.tuple [.sc (.bool true),.sc k,v])) (H.set i [.mw o since (seen++[j])])|_=>False
  |_=>False
 |_=>False
def FK(x:AV)(H:dY):Option AV:=
 match x with
 |.fb i 0=>
  match H[i]?with
  |some [.mw o since seen]=>
   match H[o]?,seen.getLast? with
   |some [.uH ks xs],some j=>
    match ks[j]?,xs[j]?with
    |some k,some v=>if ks.length=since/\y0 k then some (.tuple [.sc k,v])else none|_,_=>none
   |_,_=>none
  |_=>none
 |_=>none
def lB.E_{F:kM}{G:Nat->Nat}{n:Nat}{ks xs a}(h:lB F G n [.uH ks xs] a):∃es clock,a=.map es clock/\es.toList.map (·.key)=ks/\hQ (gQ F G n) xs (es.toList.map (·.val))/\es.toList.map (·.born)=List.range ks.length/\clock=ks.length/\ks.Nodup:=by
 cases h with
 |cells d c b=>have:=b (.uH ks xs) aa2;simp[AV.gL] at this
 |map c b f i j=>grind
def lB.OW{F:kM}{G:Nat->Nat}{n:Nat}{o since seen a}(h:lB F G n [.mw o since seen] a):a=.mapIter (some (G o)) since seen.toArray since/\o<n:=by
 cases h with
 |cells c d b=>have:=b (.mw o since seen) aa2;simp[AV.gL] at this
 |iter h=>grind
section
variable{P:Program} {T:eN} {n B0:Nat} {ρ:Maps} {F:kM} {R:Nat->ou} {fr:Fr} {H:dY} {a:Act} {w:World}
def Ga{o:Nat}{v:Value}(h:gG F ρ (.nx o) v):v=.map (some (ρ.G o))/\o<ρ.n:=by
 cases h with
 |cell h=>cases h with
  |p h=>cases h with|nx h=>exact⟨rfl,h⟩
def Vn(w:World){t:TypeId}{z:AV}(h:OZ P t=some z):∃v,(zeroValue t).run P w=.ok v w/\gQ F ρ.G ρ.n z v:=by
 unfold OZ at h
 split at h
 ·rename_i z0 a
  split at h
  ·rename_i b;injection h with h;subst h;refine⟨z0,?_,(gG.p (zx _ _ _ _ b.1)).norm⟩;unfold zeroOf at a;cases hi:P.info? t with
   |none=>grind|some i=>
    rw[hi] at a;simp at a;simp[zeroValue,typeInfo,hi,a]
  ·cases h
 ·cases h
def RK{d:TypeDesc}{ks:List Value}{es:Array MapEntry}(h:es.toList.map (·.key)=ks)(a:ks.all (Jk d)=true):∀x∈es.toList,IsKey d x.key:=by grind[wN]
def HQ{ks:List Value}{es:Array MapEntry}{j:Nat}{e:MapEntry}(h:es.toList.map (·.key)=ks)(a:es.toList[j]?=some e):ks[j]?=some e.key:=by grind
def Nh(h:WR T n B0 ρ F R fr H a w){t:TypeId}{x i r:AV}{ok:Bool}{Q S:Value}(c:vD P H t x i ok=some r)(J:gG F ρ x Q)(hi:gG F ρ i S):∃v,(Instr.lookup t Q S ok).run P w=.ok v w/\gG F ρ r v:=by
 unfold vD at c
 split at c
 ·rename_i kt e o k hu
  split at c
  ·rename_i d ks xs z G W X
   split at c
   ·rename_i K;obtain⟨rfl,_⟩:=Ga J;obtain rfl:=gi hi;obtain⟨ob,U,Y⟩:=h.g.lK o _ W;obtain⟨es,clock,rfl,L,V,e3,e4,Z⟩:=Y.E_;rw[<-h.hn] at V;have b:=wN K.1;have q:=RK L K.2;have u:∀y∈ks,IsKey d y:=λy s=>wN (k_.1 K.2 _ s);obtain⟨M,N,A⟩:=Vn (F:=F) (ρ:=ρ) w X;rcases findNow_spec b es.toList 0 q with⟨f,l⟩|⟨j,I,f,l,O⟩
    ·rw[AI b u (by
      intro y s;rw[<-L] at s;obtain⟨x,J,rfl⟩:=qp.1 s
      exact l x J)] at c
     simp only[B9] at c;subst c;refine⟨if ok then .tuple #[M,.bool false] else M,?_,?_⟩
     ·cases ok<;>simp[Instr.lookup,run_underlying hu,MapKept.run_getObj_map U,run_checkKey G b,run_findKey G f,N,Result.andThen]
     ·cases ok
      ·exact .p A
      ·exact .p (.tuple (vs:=[M,.bool false]) (.cons A (.cons (.sc rfl) .nil)))
    ·have B:=HQ L l;rw[O] at B;rw[A2 b u Z B] at c;simp only[Zn] at c;obtain⟨y,s,rfl⟩:=c;obtain⟨yv,C,D⟩:=V.get s
     have:yv=I.val:=by
      rw[yZ,l] at C;simpa using C.symm
     subst this;simp only[Aa] at f;refine⟨if ok then .tuple #[I.val,.bool true] else I.val,?_,?_⟩
     ·cases ok<;>simp[Instr.lookup,run_underlying hu,MapKept.run_getObj_map U,run_checkKey G b,run_findKey G f,Result.andThen]
     ·cases ok
      ·exact .p D
      ·exact .p (.tuple (vs:=[I.val,.bool true]) (.cons D (.cons (.sc rfl) .nil)))
   ·cases c
  ·cases c
 ·cases c
def hQ.ajp{α β:Type}{R:α->β->Prop}{as:List α}{bs:List β}(h:hQ R as bs){a:α}{b:β}(c:R a b)(j:Nat):hQ R (as.set j a) (bs.set j b):=by
 induction h generalizing j with
 |nil=>simp;exact .nil|cons d f ih=>cases j with
  |zero=>exact .cons c f|succ j=>exact .cons d (ih j)
def CX(f:MapEntry->MapEntry){α:Type}(g:MapEntry->α)(es:Array MapEntry)(j:Nat){e:MapEntry}(a:es.toList[j]?=some e):(es.modify j f).toList.map g=(es.toList.map g).set j (g (f e)):=by
 apply XM
 grind
def NX{α:Type}{l:List α}{j:Nat}{x:α}(h:l[j]?=some x):l.set j x=l:=by
 apply XM
 grind
def Ek{G0:Nat->Nat}{F0:kM}{n0:Nat}{w0:World}(h:WR T n w0.heap.size ρ F R fr H a w)(S:Ext w0.heap.size G0 F0 n0 w0 ρ.G F H.length w){t:TypeId}{x i v:AV}{xv A B:Value}{K:Fr->dY->Prop}
  (k:sh P t x i v K fr H) (U:gG F ρ x xv) (V:gG F ρ i A) (D:gG F ρ v B):∃fr' H' w',(Instr.mapUpdate t xv A B).run P w=.ok () w'/\K fr' H'/\SR T n G0 F0 n0 w0 fr' H' a w':=by
 unfold sh at k
 split at k
 ·rename_i kt e o kk hu
  split at k
  ·rename_i d ks xs O W;obtain⟨X,I,k⟩:=k;obtain⟨rfl,_⟩:=Ga U;obtain rfl:=gi V;obtain⟨ob,J,h2⟩:=h.g.lK o _ W;obtain⟨es,clock,rfl,C,Y,e3,Z,e5⟩:=h2.E_;have c:=wN X;have r:=RK C I;have L:∀y∈ks,IsKey d y:=λy Q=>wN (k_.1 I _ Q)
   have hlen:es.toList.length=ks.length:=by rw[<-C];simp
   rw[<-h.hn] at Y
   have fin:∀(l:Obj) (s:List AV),lB F ρ.G ρ.n s l->K fr (H.set o s)->(Instr.mapUpdate t (.map (some (ρ.G o))) A B).run P w=.ok () {w with heap:=w.heap.setIfInBounds (ρ.G o) l}->∃fr' H' w',(Instr.mapUpdate t (.map (some (ρ.G o))) A B).run P w=.ok () w'/\K fr' H'/\SR T n G0 F0 n0 w0 fr' H' a w':=by
    intro l s ad k M;obtain⟨s1,s2⟩:=heap_set (o':=l) J;refine⟨_,_,_,M,k,ρ,F,R,h.JX W aa2 aa2 s1 s2 ad,?_⟩;rw[XW];refine S.NC rfl rfl rfl aa2 λb hb hn=>s2 b ?_;rintro rfl;exact hn o (sY.1 W).1 rfl
   rcases findNow_spec c es.toList 0 r with⟨q,f⟩|⟨j,e0,q,f,N⟩
   ·rw[F5,AI c L (by
     intro y Q;rw[<-C] at Q;obtain⟨x,S,rfl⟩:=qp.1 Q
     exact f x S)] at k
    refine fin (.map (es.push {key:=A,val:=B,born:=clock}) (clock+1)) _ (.map ?_ ?_ ?_ ?_ ?_) k ?_
    ·simp[C]
    ·simpa using Y.append (.cons D.norm .nil)
    ·simp[e3,Z,List.range_succ]
    ·simp[Z]
    ·grind
    ·simp[Instr.mapUpdate,run_underlying hu,MapKept.run_getObj_map J,run_checkKey O c,run_findKey O q,run_setObj_map _ J,Result.andThen]
   ·have u:=HQ C f;rw[N] at u;rw[F5,A2 c L e5 u] at k
    have hj:es[j]?=some e0:=by simpa using f
    simp only[Aa] at q;refine fin (.map (es.modify j λe=>{e with key:=A,val:=B}) clock) _ (.map ?_ ?_ ?_ Z e5) k ?_
    ·rw[CX _ _ _ _ f,C,NX u]
    ·rw[CX _ _ _ _ f];exact Y.ajp D.norm j
    ·rw[CX _ _ _ _ f,NX (by rw[yZ,f];rfl),e3]
    ·simp[Instr.mapUpdate,run_underlying hu,MapKept.run_getObj_map J,run_checkKey O c,run_findKey O q,hj,N,run_keyThatStays c,run_setObj_map _ J,Result.andThen]
  ·exact k.elim
 ·exact k.elim
def sx{G0:Nat->Nat}{F0:kM}{n0:Nat}{w0:World}(h:WR T n w0.heap.size ρ F R fr H a w)(k:Ext w0.heap.size G0 F0 n0 w0 ρ.G F H.length w){c:Obj}{cs:List AV}(f:lB F ρ.G ρ.n cs c)
  {dst:Option Nat} (l:∀d,dst=some d->d<n) {x:AV} {v:Value} (q:∀ρ':Maps,(∀o,o<H.length->ρ'.G o=ρ.G o)->ρ'.G H.length=w.heap.size->ρ'.n=H.length+1->gQ F ρ'.G ρ'.n x v):SR T n G0 F0 n0 w0 (fr.put dst x) (H++[cs]) (a.put dst v) (w.alloc c):=by
 obtain⟨ρ',r,hG,b,i,hw⟩:=(h.alloc c).Mg (h.lz _ (gY _)) (λj=>h.g.fresh _ j (gY _)) (heap_alloc_new w _) f;refine⟨ρ',F,r,hw.put l (.p (q ρ' hG b i)),?_⟩;rw[ni];exact(k.alloc h.qq _).adY hG (by rw[b];exact h.qq)
def ED{G0:Nat->Nat}{F0:kM}{n0:Nat}{w0:World}(h:WR T n w0.heap.size ρ F R fr H a w)(j:Ext w0.heap.size G0 F0 n0 w0 ρ.G F H.length w){t k:Nat}{parts:List (Nat×AV)}{pv:List (Nat×Value)}{tag:Tag}{l:List AV}
  {dst:Option Nat} (q:m4 P t k parts=some (.slice tag l)) (c:hQ (λ(x:Nat×AV) (y:Nat×Value)=>x.1=y.1/\gG F ρ x.2 y.2) parts pv) (r:∀d,dst=some d->d<n):∃v w',(Instr.buildSlice t k pv.toArray).run P w=.ok v w'/\SR T n G0 F0 n0 w0 (fr.put dst (.zF H.length 0 l.length l.length)) (H++[l.flatMap AV.cells]) (a.put dst v) w':=by
 obtain⟨B,us,e,sz,he,C,DW,s,b,f,i⟩:=AB w q c;injection he with _ he;subst he;refine⟨_,_,i,sx h j (.cells (.inl rfl) (by simpa using b) f) r ?_⟩;intro ρ' hG u A;have:=gQ.zF (F:=F) (G:=ρ'.G) (n:=ρ'.n) (o:=H.length) (off:=0) (len:=l.length) (cap:=l.length) (by grind)
 grind
def J1{G0:Nat->Nat}{F0:kM}{n0:Nat}{w0:World}(h:WR T n w0.heap.size ρ F R fr H a w)(b:Ext w0.heap.size G0 F0 n0 w0 ρ.G F H.length w){t:TypeId}{dst:Option Nat}(c:∀d,dst=some d->d<n):∃v w',(Instr.makeMap t none).run P w=.ok v w'/\SR T n G0 F0 n0 w0 (fr.put dst (.nx H.length)) (H++[[.uH [] []]]) (a.put dst v) w':=by
 refine⟨.map (some w.heap.size),w.alloc (.map #[] 0),by simp[Instr.makeMap],sx h b (.map aa2 (by simp;exact .nil) aa2 rfl aa2) c ?_⟩;intro ρ' hG f i;have:=gQ.nx (F:=F) (G:=ρ'.G) (n:=ρ'.n) (o:=H.length) (by grind)
 grind
def Ok{G0:Nat->Nat}{F0:kM}{n0:Nat}{w0:World}(h:WR T n w0.heap.size ρ F R fr H a w)(j:Ext w0.heap.size G0 F0 n0 w0 ρ.G F H.length w){t:TypeId}{x:AV}{i:Value}{dst:Option Nat}{K:Fr->dY->Prop}
  (b:IF P t x dst K fr H) (k:∀d,dst=some d->d<n) (c:gG F ρ x i):∃v w' fr' H',(Instr.range t i).run P w=.ok v w'/\K fr' H'/\SR T n G0 F0 n0 w0 fr' H' (a.put dst v) w':=by
 unfold IF at b
 split at b
 ·rename_i kt e o hu
  split at b
  ·rename_i ks xs l;obtain⟨rfl,f⟩:=Ga c;obtain⟨A,q,r⟩:=h.g.lK o _ l;obtain⟨es,clock,rfl,B,C,D,s,I⟩:=r.E_;subst s;refine⟨_,_,_,_,run_range_map w t kt e (ρ.G o) es ks.length hu q,b,sx h j (.iter (seen:=[]) f) k ?_⟩;intro ρ' hG u y;have:=gQ.fb (F:=F) (G:=ρ'.G) (n:=ρ'.n) (o:=H.length) (off:=0) (by grind)
   grind
  ·exact b.elim
 ·exact b.elim
def Nt{es:Array MapEntry}{k:Nat}(h:es.toList.map (·.born)=List.range k){e:MapEntry}(he:e∈es.toList):e.born<k/\es.toList[e.born]?=some e:=by
 obtain⟨j,a⟩:=aa3.1 he
 have b:(es.toList.map (·.born))[j]?=some e.born:=by grind
 grind
def KA(w:World){it m since:Nat}{seen:Array Nat}{es:Array MapEntry}(ty:TypeId)(hit:w.heap[it]?=some (.mapIter (some m) since seen since))(hm:w.heap[m]?=some (.map es since))(r:es.toList.map (·.born)=List.range since):((∀e∈es.toList,e.born∈seen)/\(Instr.next (.pointer (some ⟨it,0,none⟩)) false ty).run P w=.ok (.tuple #[.bool false]) w)\/∃e∈es.toList,e.born∉seen/\∃a,(a=w\/a=w.drew)/\(Instr.next (.pointer (some ⟨it,0,none⟩)) false ty).run P w=.ok (.tuple #[.bool true,e.key,e.val]) {a with heap:=a.heap.setIfInBounds it (.mapIter (some m) since (seen.push e.born) since)}:=by
 have hold:∀x∈es.toList,x.born<since:=λx c=>(Nt r c).1;simp only[Instr.next,getObj,h7,Sem.run,hit,hm,Result.andThen,next_test_false seen es since since hold (gY _),oz,iU]
 have k:∀x,x∈(Array.filter (λe=>!seen.contains e.born) es).toList↔x∈es.toList/\x.born∉seen:=by
  intro x;simp
 generalize Array.filter (λe=>!seen.contains e.born) es=L at k|-;have b:∀x∈L.toList,x.born<since:=λx c=>hold x ((k x).1 c).1;have s:L.filter (λx=>decide (x.born<since))=L:=Array.filter_eq_self.2 (λx c=>by simpa using b x (by simpa using c))
 have t:L.filter (λx=>decide (x.born>=since))=#[]:=by
  rw[Array.filter_eq_empty_iff];intro x c;have:=b x (by simpa using c);simp;omega
 simp only[s,t,Array.append_empty]
 by_cases o:L.size=0
 ·left;have:L=#[]:=afd o;subst this;refine⟨?_,?_⟩
  · grind
  · simp[choose,Sem.run,Question.forced]
 ·right
  have l:L.isEmpty=false:=by simp[Array.isEmpty,o]
  simp only[l,oz,iU,Array.empty_append,Array.size_map]
  have n:∃(j:Nat) (a:World),j<L.size/\(a=w\/a=w.drew)/\(choose (Question.mapNext L.size)).run P w=.ok j a:=by
    by_cases q:L.size<=1
    ·exact⟨0,w,VW,.inl rfl,by simp[choose,Sem.run,Question.forced,q]⟩
    ·exact⟨_,w.drew,aaw _ VW,.inr rfl,by
      simp only[choose,Sem.run,Question.forced,oy,q,iU,Question.cut]
      rfl⟩
  obtain⟨j,a,u,d,f⟩:=n;have h:=(k L[j]).1 aa2;refine⟨L[j],h.1,h.2,a,d,?_⟩
  have i:a.heap[it]?=some (.mapIter (some m) since seen since):=by
    rcases d with rfl|rfl
    ·exact hit
    ·exact hit
  have gk:∀(o':Obj),(setObj it o').run P a=.ok () {a with heap:=a.heap.setIfInBounds it o'}:=λo'=>by
    simp only[setObj,Sem.run,i]
  simp only[f,Array.getElem?_map,ahn u,aaD,h7,gk,Result.andThen];rfl
def Ry(h:WR T n B0 ρ F R fr H a w){x r:AV}{G:Value}(b:FK x H=some r)(u:gG F ρ x G):∃v,(Instr.entry G).run P w=.ok v w/\gG F ρ r v:=by
 unfold FK at b
 split at b
 ·rename_i i
  split at b
  ·rename_i o since seen hi
   split at b
   ·rename_i ks xs j M N
    split at b
    ·rename_i k v I O
     split at b
     ·rename_i Q;obtain⟨hlen,y⟩:=Q;injection b with b;subst b;obtain⟨rfl,S⟩:=vL u;obtain⟨ob,g1,g2⟩:=h.g.lK i _ hi;obtain⟨rfl,U⟩:=g2.OW;obtain⟨V,W,X⟩:=h.g.lK o _ M;obtain⟨es,clock,rfl,J,K,A,L,e5⟩:=X.E_;rw[hlen] at A L;subst L;rw[<-h.hn] at K;obtain⟨Y,f,B⟩:=K.get O
      have C:j<clock:=by rw[<-hlen];exact(sY.1 I).1
      have l:j<es.toList.length:=by
       have:(es.toList.map (·.key)).length=ks.length:=by rw[J]
       simp only[Dh] at this;omega
      have c:es.toList[j]?=some es.toList[j]:=o9 l
      have Z:es.toList[j].born=j:=by
       have q:(es.toList.map (·.born))[j]?=some es.toList[j].born:=by rw[yZ,c];rfl
       rw[A,ag_ C] at q;exact(kR q).symm
      have s:es.toList[j].key=k:=by
       have q:=HQ J c;rw[I] at q;exact(kR q).symm
      have t:es.toList[j].val=Y:=by
       rw[yZ,c] at f;exact kR f
      have hf:es.find? (·.born==j)=some es.toList[j]:=by
       rw[<-Array.find?_toList]
       have D:(es.toList.map (·.born)).Nodup:=by rw[A];exact List.nodup_range
       have:=find_born es.toList[j] es.toList D (B7 l);rw[Z] at this;exact this
      have d:seen.toArray.back?=some j:=by
       rw[<-N];simp
      refine⟨.tuple #[es.toList[j].key,es.toList[j].val],?_,.p (.tuple (vs:=[es.toList[j].key,es.toList[j].val]) (.cons (by rw[s];exact .sc y) (.cons (by rw[t];exact B) .nil)))⟩;simp only[Instr.entry,getObj,h7,Sem.run,g1,W,Result.andThen,d,bne_self_eq_false,oz,iU,hf];rfl
     ·cases b
    ·cases b
   ·cases b
  ·cases b
 ·cases b
def Rm{G0:Nat->Nat}{F0:kM}{n0:Nat}{w0:World}(h:WR T n w0.heap.size ρ F R fr H a w)(A:Ext w0.heap.size G0 F0 n0 w0 ρ.G F H.length w){x:AV}{Y:Value}{dst:Option Nat}{K:Fr->dY->Prop}(ty:TypeId)
  (f:LJ x dst K fr H) (Z:∀d,dst=some d->d<n) (B:gG F ρ x Y):∃v w' fr' H',(Instr.next Y false ty).run P w=.ok v w'/\K fr' H'/\SR T n G0 F0 n0 w0 fr' H' (a.put dst v) w':=by
 unfold LJ at f
 split at f
 ·rename_i i
  split at f
  ·rename_i o since seen hi
   split at f
   ·rename_i ks xs ho;obtain⟨hlen,C,D,I⟩:=f;obtain⟨rfl,ad⟩:=vL B;obtain⟨ob,g1,g2⟩:=h.g.lK i _ hi;obtain⟨rfl,J⟩:=g2.OW;obtain⟨ae,h1,h2⟩:=h.g.lK o _ ho;obtain⟨es,clock,rfl,e1,L,y,e4,e5⟩:=h2.E_;rw[hlen] at y e4;subst e4;rw[<-h.hn] at L
    have af:es.toList.length=ks.length:=by rw[<-e1];simp
    rcases KA (P:=P) w ty g1 h1 y with⟨l,c⟩|⟨e,he,M,N,k,c⟩
    ·refine⟨_,_,_,_,c,D ?_,ρ,F,R,h.put Z (.p (.tuple (vs:=[.bool false]) (.cons (.sc rfl) .nil))),A⟩;intro j hj
     have q:j<es.toList.length:=VW
     have hm:=l es.toList[j] (B7 q)
     have O:(es.toList.map (·.born))[j]?=some es.toList[j].born:=by rw[yZ,o9 q];rfl
     rw[y,ag_ VW] at O
     have:j=es.toList[j].born:=by simpa using O
     rw[this];simpa using hm
    ·obtain⟨b1,Q⟩:=Nt y he;have hk:ks[e.born]?=some e.key:=HQ e1 Q
     have S:(es.toList.map (·.val))[e.born]?=some e.val:=by rw[yZ,Q];rfl
     have ah:xs.length=es.toList.length:=by have:=L.length;simpa using this
     obtain⟨v,hv⟩:∃v,xs[e.born]?=some v:=⟨_,o9 (by have:=(sY.1 Q).1;omega)⟩;obtain⟨vv,r,U⟩:=L.get hv
     have:vv=e.val:=by rw[S] at r;simpa using r.symm
     subst this;have s:y0 e.key=true:=k_.1 C _ (Hb hk);have V:=I e.born e.key v hk hv (by simpa using M)
     have t:WR T n w0.heap.size ρ F R fr H a N:=by
      rcases k with rfl|rfl
      ·exact h
      ·exact h.drew
     have u:Ext w0.heap.size G0 F0 n0 w0 ρ.G F H.length N:=by
      rcases k with rfl|rfl
      ·exact A
      ·exact A.drew
     have W:N.heap[ρ.G i]?=some (.mapIter (some (ρ.G o)) clock seen.toArray clock):=by
      rcases k with rfl|rfl
      ·exact g1
      ·exact g1
     obtain⟨s1,s2⟩:=heap_set (o':=.mapIter (some (ρ.G o)) clock (seen.toArray.push e.born) clock) W
     have X:lB F ρ.G ρ.n [.mw o clock (seen++[e.born])] (.mapIter (some (ρ.G o)) clock (seen.toArray.push e.born) clock):=by
      have:=lB.iter (F:=F) (G:=ρ.G) (n:=ρ.n) (o:=o) (since:=clock) (seen:=seen++[e.born]) (by rw[h.hn];exact J);simpa using this
     refine⟨_,_,_,_,c,V,ρ,F,R,(t.JX hi aa2 aa2 s1 s2 X).put Z (.p (.tuple (vs:=[.bool true,e.key,e.val]) (.cons (.sc rfl) (.cons (.sc s) (.cons U .nil))))),?_⟩;rw[XW];refine u.NC rfl rfl rfl aa2 λb O hn=>s2 b ?_;rintro rfl;exact hn i (sY.1 hi).1 rfl
   ·exact f.elim
  ·exact f.elim
 ·exact f.elim
end
end Go.kY
