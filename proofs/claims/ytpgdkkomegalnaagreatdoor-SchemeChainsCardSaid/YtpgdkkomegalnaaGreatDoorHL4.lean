/- Part of the proof of SchemeChains: layer. -/
import Derived.Great.BuildSlice
import Derived.Lib.AppendStr
import Derived.MapKept
import Derived.Laws.IdiomRangeMap
import Derived.Test.YtpgdkkomegalnaaGreatDoorHL3
set_option linter.all false
namespace Go.lD
open Go
variable{E:List Nat}{F:la}{K:Fr->dV->Prop}{R:Nat->oY}{bl:Bool}{dst:Option Nat}{f:Nat×Nat}{g off:Nat}{t ty:TypeId}{u v:Value}{vs:Array Value}{ρ:Maps}
section
variable{B:Nat} {G G':Nat->Nat} {F F':la} {n:Nat} {G0:Nat->Nat} {F0:la} {n0:Nat} {w0 w w':World}
def Ext.Rn(h:Ext B G0 F0 n0 w0 G F n w)(a:w'.os=w.os)(c:w'.tape=w.tape)(d:w'.output=w.output)(hs:w.heap.size<=w'.heap.size)
  (f:∀b,b<B->(∀o,o<n->G o≠b)->w'.heap[b]?=w.heap[b]?):Ext B G0 F0 n0 w0 G F n w':=
 h.trans ⟨a,c,d,hs,gY _,λ_ _=>rfl,λ_ h i=>absurd i VW,λ_ _ _ _=>rfl,λ_ _ _ _ h=>h,f⟩
def Ext.drew(h:Ext B G0 F0 n0 w0 G F n w):Ext B G0 F0 n0 w0 G F n w.drew:=h.Rn rfl rfl rfl (gY _) λ_ _ _=>rfl
def Ext.alloc(h:Ext B G0 F0 n0 w0 G F n w)(a:B<=w.heap.size)(o:Obj):Ext B G0 F0 n0 w0 G F n (w.alloc o):=
 h.Rn rfl rfl rfl abm λb c _=>heap_alloc_old w o VW
def Ext.setRow(h:Ext B G0 F0 n0 w0 G F n w)(hg:B<=g\/∃o,o<n/\G o=g)(cs:Array Value):Ext B G0 F0 n0 w0 G F n (w.setRow g cs):=
 h.Rn rfl rfl rfl (by rw[size_setRow];exact gY _) λb c hn=>setRow_other w g b cs (by
  rintro rfl;rcases hg with hg|⟨o,a,hg⟩
  .omega
  .exact hn o a hg)
def Ext.freeze(h:Ext B G0 F0 n0 w0 G F n w)(hF:∀b j,b<B->F' b j=F b j):Ext B G0 F0 n0 w0 G F' n w:=
 h.trans ⟨rfl,rfl,rfl,gY _,gY _,λ_ _=>rfl,λ_ h c=>absurd c VW,λb j a _=>hF b j a,λb j v a d=>(hF b j a).trans d,λ_ _ _=>rfl⟩
def Ext.af6(h:Ext B G0 F0 n0 w0 G F n w)(hG:∀o,o<n->G' o=G o)(hn:B<=G' n):Ext B G0 F0 n0 w0 G' F (n+1) w:=
 h.trans ⟨rfl,rfl,rfl,gY _,VW,hG,λo a b=>(by rw[show o=n from VW];exact hn),λ_ _ _ _=>rfl,λ_ _ _ _ h=>h,λ_ _ _=>rfl⟩
end
def SR(T:eK)(n:Nat)(G0:Nat->Nat)(F0:la)(n0:Nat)(w0:World)(fr:Fr)(H:dV)(a:Act)(w:World):Prop:=
 ∃ρ F R,WR T n w0.heap.size ρ F R fr H a w/\Ext w0.heap.size G0 F0 n0 w0 ρ.G F H.length w
def uy(P:Program)(fr:Fr)(H:dV)(t:TypeId)(x:AV):Option AV:=
 match x with
 |.mQ v=>if rn P t v then some v else none|.h9 b g off=>if g=fr.gen b then(match fr.box b with|some cs=>mR P t cs off|none=>none)else none
 |.fg o off=>match H[o]?with|some cs=>if uZ cs then mR P t cs off else none|none=>none
 |_=>none
section
variable{P:Program} {T:eK} {n B0:Nat} {ρ:Maps} {F:la} {R:Nat->oY} {fr:Fr} {H:dV} {a:Act} {w:World}
theorem WC{v:AV}(h:rn P t v=true):(∃k cs,f' P t=some (true,k)/\v=.agg cs/\cs.length=k)\/(∃k,f' P t=some (false,k)/\v.gO=true):=by
 unfold rn at h;cases a:f' P t with
 |none=>grind|some p=>
  obtain⟨b,k⟩:=p;rw[a] at h;cases b
  .cases v<;>first|(simp at h;done)|exact .inr ⟨k,rfl,rfl⟩
  .grind
theorem A9(w:World){b:Nat}{cs:List AV}{z:AV}(l:w.heap[b]?=some (.cells vs ty f))
  (a:hS (j5 F ρ) cs vs.toList) (d:∀c∈cs,c.gO=true) (o:mR P t cs off=some z):∃v,(Instr.loadAt t (.pointer (some ⟨b,off,none⟩))).run P w=.ok v w/\gI F ρ z v:=by
 unfold Instr.loadAt;rcases Av o with⟨k,h,hle,rfl⟩|⟨k,h,i⟩
 .refine⟨.agg ((vs.toList.drop off).take k).toArray,?_,.agg ((a.drop off).take k) (λc i=>d c (Hp (C' i)))⟩;refine zG h w ⟨b,off,none⟩ _ (by have:=a.length;simp only[Dy,WL];omega) ?_;intro j v n;rw[Addr.add_lit,cell_of_row w b _ vs ty f l]
  grind
 .obtain⟨v,n,q⟩:=a.get i;refine⟨v,?_,.cell q⟩;refine zE h w ⟨b,off,none⟩ v ?_;rw[cell_of_row w b _ vs ty f l];simpa using n
def MH(h:WR T n B0 ρ F R fr H a w){x z:AV}(c:uy P fr H t x=some z)(q:gI F ρ x u):∃v,(Instr.loadAt t u).run P w=.ok v w/\gI F ρ z v:=by
 unfold uy at c
 split at c
 .rename_i v
  split at c
  .rename_i C;injection c with c;subst c;obtain⟨b,o,vs,rfl,f,r,s⟩:=Fw q;unfold Instr.loadAt;simp only[Instr.sureAddr,h8,qb,kD];rcases WC C with⟨k,cs,d,rfl,D⟩|⟨k,d,l⟩
   .refine⟨.agg vs.toArray,?_,.p (.agg f s)⟩;refine zG d w ⟨b,o,none⟩ vs (by rw[<-f.length];exact D) ?_;intro j v G;rw[Addr.add_lit];exact h.g.GL b _ v (r j v G)
   .rw[AV.BK l] at f;cases f with
    |cons f hn=>
     cases hn;rename_i u;refine⟨u,?_,.p f⟩;refine zE d w ⟨b,o,none⟩ u ?_;exact h.g.GL b o u (r 0 u rfl)
  .cases c
 .rename_i b g off
  split at c
  .rename_i hg
   split at c
   .rename_i cs y;obtain⟨rfl,_⟩:=vD q;obtain⟨f,r,s,vs,ty,A,i⟩:=h.box b cs y;rw[hg];exact A9 w A i s c
   .cases c
  .cases c
 .rename_i o off
  split at c
  .rename_i cs y
   split at c
   .rename_i B;obtain⟨rfl,_⟩:=vF q;obtain⟨J,A,i⟩:=h.g.ma o cs y;obtain⟨vs,ty,K,rfl,_,i,I⟩:=i.HR B;rw[<-h.hn] at i;exact A9 w A (i.mono λ_ _ _ h=>.p h) I c
   .cases c
  .cases c
 .cases c
theorem V4{w:World}{b j:Nat}{a:Nat×Nat}(d:w.heap[b]?=some (.cells vs ty a))(c:Uo a vs.size)(f:j<vs.size):w.frozen? ⟨b,j,none⟩=false:=by
 unfold World.frozen?;rcases c with h|h
 all_goals grind
theorem tf(P:Program)(b o:Nat)(ty:TypeId)(a:Nat×Nat):∀(us:List Value) (i:Nat) (vs:Array Value) (w:World),w.heap[b]?=some (.cells vs ty a)->Uo a vs.size->o+i+us.length<=vs.size->(∀u∈us,u.oneCell'=true)->(storeCells ⟨b,o,none⟩ us i).run P w=.ok () (w.setRow b (vs.toList.take (o+i)++us++vs.toList.drop (o+i+us.length)).toArray)
 |[],i,vs,w,c,_,_,_=>by
  have e:=setRow_self w b vs ty a c;simp only[storeCells,yc,wZ,Gg,List.take_append_drop,Xr,e];rfl
 |u::us,i,vs,w,c,l,q,n=>by
  simp only[kY] at q
  have d:o+i<vs.size:=VW
  have r:w.cell? ⟨b,o+i,none⟩=some vs[o+i]:=by
   rw[cell_of_row w b _ vs ty a c];exact aj_ d
  have hs:(store ((⟨b,o,none⟩:Addr).add i) u).run P w=.ok () (w.setRow b (vs.setIfInBounds (o+i) u)):=by
   rw[Addr.add_lit,run_store P w _ u _ (n u abm),r];simp[V4 c l d,setCell_eq_setRow w b (o+i) vs ty a u c]
  have h:=setRow_heap w b vs (vs.setIfInBounds (o+i) u) ty a c;have ih:=tf P b o ty a us (i+1) _ _ h (by simpa using l) abv (λx s=>n x (by simp[s]));rw[storeCells];simp only[h8,hs,kD];rw[ih,setRow_setRow]
  congr 2
  apply F2.1;simp only[akn];apply YU;intro j;simp only[tv,kY,ahf]
  have f:∀k,k<=vs.toList.length->(vs.toList.take k).length=k:=λk B=>by rw[Dy];omega
  have t:vs.toList.length=vs.size:=abm
  rcases Nat.lt_trichotomy j (o+i)with hj|hj|hj
  .grind
  .grind
  .have v:∀X:List Value,((vs.toList.set (o+i) u).take (o+(i+1))++X)[j]?=X[j-(o+(i+1))]?:=λX=>by
    have y:((vs.toList.set (o+i) u).take (o+(i+1))).length=o+(i+1):=by rw[Dy,YG];omega
    rw[tS VW,y]
   have A:∀X:List Value,(vs.toList.take (o+i)++u::X)[j]?=X[j-(o+(i+1))]?:=λX=>by
    rw[tS (by rw[f _ VW];omega),f _ VW,show j-(o+i)=(j-(o+(i+1)))+1 by omega,nJ]
   rw[v,A];rcases uC (j-(o+(i+1))) us.length with hu|hu
   .rw[uJ hu,uJ hu]
   .rw[tS hu,tS hu,Yy,Yy,Tv VW]
    congr 1
    omega
theorem zI(w:World){b k:Nat}{a:Nat×Nat}(h:w.heap[b]?=some (.cells vs ty a))(d:Uo a vs.size)
  (f:f' P t=some (bl,k)) (i:v.cells.size=k) (c:off+k<=vs.size) (j:∀u∈v.cells.toList,u.oneCell'=true):(Instr.storeAt t (.pointer (some ⟨b,off,none⟩)) v).run P w=.ok () (w.setRow b (vs.toList.take off++v.cells.toList++vs.toList.drop (off+v.cells.toList.length)).toArray):=by
 unfold Instr.storeAt;simp only[Instr.sureAddr,h8,qb];unfold storeVar;simp only[h8,k6 f,kD]
 grind[tf]
end
def ly(E:List Nat)(dst:Option Nat)(cells:List AV)(K:Fr->dV->Prop)(fr:Fr)(H:dV):Prop:=
 match dst with
 |some d=>
  if E.contains d then K {fr with env:=gN fr.env d (.fg H.length 0)} (H++[cells.map AV.kA])
  else K {fr with env:=gN fr.env d (.h9 d (fr.gen d+1) 0),box:=gN fr.box d (some cells),gen:=gN fr.gen d (fr.gen d+1)} H
 |none=>False
def mj(P:Program)(t:TypeId)(x v:AV)(K:Fr->dV->Prop)(fr:Fr)(H:dV):Prop:=
 match f' P t with
 |none=>False|some (_,n)=>
  match x with
  |.h9 b g off=>
   match fr.box b with
   |some cs=>g=fr.gen b/\v.cells.length=n/\off+n<=cs.length/\fG v=true/\K {fr with box:=gN fr.box b (some (setCells cs off v.cells))} H|none=>False
  |.fg o off=>
   match H[o]?with
   |some cs=>uZ cs=true/\v.cells.length=n/\off+n<=cs.length/\fG v=true/\K fr (H.set o (setCells cs off v.norm.cells))|none=>False
  |_=>False
section
variable{P:Program} {T:eK} {n:Nat} {G0:Nat->Nat} {F0:la} {n0:Nat} {w0:World} {fr:Fr} {H:dV} {a:Act} {w:World}
theorem AV.tJ{x:AV}(h:fG x=true):x.norm.cells=x.cells.map AV.kA:=by
 cases x<;>first|rfl|(simp[fG] at h)
theorem yo{cs:List AV}(h:∀c∈cs,c.gO=true):∀c∈cs.map AV.kA,c.gO=true:=by grind[AV.Gu]
def jS{cs:List AV}{vs:List Value}(h:hS (j5 F ρ) cs vs)(a:∀c∈cs,c.gO=true):∀u∈vs,u.oneCell'=true:=by
 intro u hu;obtain⟨x,b,d⟩:=h.mem hu;exact d.Nk (a x b)
def Gq(h:WR T n w0.heap.size ρ F R fr H a w)(s:Ext w0.heap.size G0 F0 n0 w0 ρ.G F H.length w){cells:List AV}
  (k:ly E dst cells K fr H) (u:∀d,dst=some d->d<n) (ty:TypeId) (l:hS (j5 F ρ) cells vs.toList) (f:∀c∈cells,c.gO=true):∃fr' H',K fr' H'/\SR T n G0 F0 n0 w0 fr' H' (a.put dst (.pointer (some ⟨w.heap.size,0,none⟩))) (w.alloc (.cells vs ty)):=by
 unfold ly at k
 split at k
 .rename_i d;have o:=u d rfl;have t:=h.alloc (.cells vs ty);have b:R w.heap.size=.free:=h.lZ _ (gY _);have hF:∀j,F w.heap.size j=none:=λj=>h.g.fresh _ j (gY _);have i:(w.alloc (.cells vs ty)).heap[w.heap.size]?=some (.cells vs ty (0,0)):=heap_alloc_new w _
  split at k
  .obtain⟨ρ',q,hG,r,hw⟩:=t.af4 b hF i (l.wH AV.kA λ_ _ _ h=>h.kA) (yo f) o;refine⟨_,_,k,ρ',F,q,hw,?_⟩;rw[oV];exact(s.alloc h.q8 _).af6 hG (by rw[r];exact h.q8)
  .obtain⟨ρ',q,hG,hw⟩:=t.afP h.q8 b hF i l f o;refine⟨_,_,k,ρ',F,q,hw,?_⟩;rw[hG];exact s.alloc h.q8 _
 .exact k.elim
def S0(w:World){z:Value}(a:zeroOf P t=some z):(Instr.alloc t true (.tuple #[])).run P w=.ok (.pointer (some ⟨w.heap.size,0,none⟩)) (w.alloc (.cells z.cells t)):=by
 have b:(zeroValue t).run P w=.ok z w:=by
  unfold zeroOf at a;cases hi:P.info? t with
  |none=>rw[hi] at a;cases a
  |some i=>
   rw[hi] at a;simp at a;simp[zeroValue,typeInfo,hi,a]
 unfold Instr.alloc;simp only[h8,b];rfl
theorem Cj(h:zr v=true)(a:∀vs,v≠ .tuple vs):(ofValue v).cells=v.cells.toList.map q4/\∀u∈v.cells.toList,u.oneCell'=true:=by
 cases v with
 |agg cs=>
  refine⟨rfl,λu hu=>?_⟩
  have b:cs.all (·.oneCell')=true:=h
  exact Lu.1 b u (yd.1 hu)
 |tuple vs=>grind|_=>
  constructor
  .rw[Gp rfl];exact AV.BK (za _)
  .simp[Value.cells,Value.oneCell']
def Rt(h:WR T n w0.heap.size ρ F R fr H a w)(N:Ext w0.heap.size G0 F0 n0 w0 ρ.G F H.length w){x v:AV}{O s:Value}
  (i:mj P t x v K fr H) (y:gI F ρ x O) (l:gI F ρ v s):∃fr' H' w',(Instr.storeAt t O s).run P w=.ok () w'/\K fr' H'/\SR T n G0 F0 n0 w0 fr' H' a w':=by
 unfold mj at i
 split at i
 .exact i.elim
 .rename_i bl k Q
  split at i
  .rename_i b g off
   split at i
   .rename_i cs A;obtain⟨hg,V,B,f,i⟩:=i;obtain⟨rfl,_⟩:=vD y;obtain⟨W,Y,S,vs,ty,I,r⟩:=h.box b cs A;have d:=l.cells (iU f);have hlen:=d.length
    have u:s.cells.toList.length=s.cells.size:=abm
    have J:cs.length=vs.size:=by simpa using r.length
    have gk:=r.setCells d off;rw[hlen] at gk;rw[hg]
    have j:∀c∈setCells cs off v.cells,c.gO=true:=by
     intro c C;simp only[setCells,tl] at C;rcases C with(hm|hm)|hm
     .exact S c (C' hm)
     .exact l.s7 (iU f) c hm
     .exact S c (Hp hm)
    refine⟨_,_,_,zI w I (.inl rfl) Q VW VW (jS d (l.s7 (iU f))),i,ρ,F,R,h.Zp A (by simpa using gk) j,N.setRow (.inl W) _⟩
   .exact i.elim
  .rename_i o off
   split at i
   .rename_i cs A;obtain⟨D,V,B,f,i⟩:=i;obtain⟨rfl,X⟩:=vF y;obtain⟨Z,I,r⟩:=h.g.ma o cs A;obtain⟨vs,ty,fz,rfl,L,r,U⟩:=r.HR D;have d:=l.cells (iU f);have hlen:=d.length
    have u:s.cells.toList.length=s.cells.size:=abm
    have J:cs.length=vs.size:=by simpa using r.length
    have q:hS (gT F ρ.G ρ.n) v.norm.cells s.cells.toList:=by
     rw[AV.tJ f];exact d.wH AV.kA λ_ _ _ h=>h.kA
    rw[<-h.hn] at r;have gk:=r.setCells q off
    have M:v.norm.cells.length=v.cells.length:=by rw[AV.tJ f];simp
    rw[M,hlen] at gk
    have j:∀c∈setCells cs off v.norm.cells,c.gO=true:=by
     intro c C;simp only[setCells,tl] at C;rcases C with(hm|hm)|hm
     .exact U c (C' hm)
     .rw[AV.tJ f] at hm;exact yo (l.s7 (iU f)) c hm
     .exact U c (Hp hm)
    refine⟨_,_,_,zI w I L Q VW VW (jS d (l.s7 (iU f))),i,ρ,F,R,h.UN A D (by simpa using gk) (by simp only[setCells,oV,Dy,WL];omega) j,?_⟩;rw[YG];exact N.setRow (.inr ⟨o,by rw[<-h.hn];exact X,rfl⟩) _
   .exact i.elim
  .exact i.elim
end
end Go.lD
namespace Go.lD
open Go
variable{B0 k sz:Nat}{F:la}{R:Nat->oY}{base:Option Addr}{dst:Option Nat}{e t ty:TypeId}{l:List AV}{pv:List (Nat×Value)}{r:AV}{tag:Tag}{us:List Value}{vs:Array Value}{α:Type}{ρ:Maps}
def oA(P:Program)(t:TypeId):Option (TypeId×Nat):=
 match P.underlying t with
 |some (.slice e)=>
  match P.info? e with
  |some i=>
   match i.zero with
   |some z=>if z.cells.size=i.size/\i.bytes<=256/\0<i.size/\z.cells.toList.all Value.oneCell' then some (e,i.size)else none|none=>none
  |none=>none
 |_=>none
def kG:Nat:=549755813888
section
variable{P:Program}
theorem nC(h:oA P t=some (e,sz)):∃i z,P.underlying t=some (.slice e)/\P.info? e=some i/\i.zero=some z/\z.cells.size=sz/\i.size=sz/\i.bytes<=256/\0<sz:=by grind[oA]
def fill_flat:∀(pv:List Value) (k:Nat) (pre rest:List Value),(∀v∈pv,v.cells.size=sz)->pre.length=k*sz->rest.length=pv.length*sz->Instr.fill (λi=>some (i*sz,sz)) (pre++rest).toArray ((pv.zipIdx k).map λx=>(x.2,x.1))=some (pre++pv.flatMap λv=>v.cells.toList).toArray:=by
 intro pv
 induction pv with
 |nil=>
  intro k pre rest _ _ h;have:rest=[]:=Cd (by simpa using h);subst this;simp[Instr.fill]
 |cons v pv ih=>
  intro k pre rest d j h;have l:=d v abm
  have f:v.cells.toList.length=sz:=by simp[l]
  rw[kY,Ce,ac0] at h;have a:=foldl_set v.cells.toList 0 (k*sz) (pre++rest).toArray (by simp only[ah5,oV,Gg];omega);simp only[Gg,f] at a
  have n:(pre++rest).toArray.toList.take (k*sz)=pre:=by simp[<-j]
  have o:(pre++rest).toArray.toList.drop (k*sz+sz)=rest.drop sz:=by
   simp only[];rw[af5];rw[LI VW,n9,<-j]
   congr 1
   omega
  rw[n,o] at a;have c:=ih (k+1) (pre++v.cells.toList) (rest.drop sz) (λu hu=>d u (by simp[hu])) (by rw[oV,j,f,Ce,ac0]) (by rw[WL,h];omega);simp only[List.zipIdx_cons,pP]
  show(if(decide (v.cells.size≠sz)||decide (k*sz+v.cells.size>(pre++rest).toArray.size)) then none
   else Instr.fill (λi=>some (i*sz,sz)) (v.cells.zipIdx.foldl (λcs (x:Value×Nat)=>cs.setIfInBounds (k*sz+x.2) x.1) (pre++rest).toArray) ((pv.zipIdx (k+1)).map λx=>(x.2,x.1)))=_
  rw[dK (by simp only[l,ah5,oV];simp;omega),<-aj2,alo]
  have b:List.foldl (λcs (x:Value×Nat)=>cs.setIfInBounds (k*sz+x.2) x.1) (pre++rest).toArray v.cells.toList.zipIdx=(pre++v.cells.toList++rest.drop sz).toArray:=by
   apply F2.1;rw[a]
  rw[b,c];simp[I3,tv]
end
section
variable{T:eK} {n B0:Nat} {ρ:Maps} {F:la} {R:Nat->oY} {fr:Fr} {H:dV} {a:Act} {w:World}
def kH(F:la)(b k:Nat)(vs:List Value):la:=λa j=>if a=b/\j<k then vs[j]?else F a j
theorem xk(F:la)(b:Nat)(vs:List Value):(kH F b vs.length vs).has b 0 vs:=by
 intro i v a;show(if b=b/\0+i<vs.length then vs[0+i]?else F b (0+i))=some v
 grind
theorem WR.freeze(h:WR T n B0 ρ F R fr H a w){b:Nat}(q:R b=.free)(hF:∀j,F b j=none)
  (C:w.heap[b]?=some (.cells vs ty (0,0))) (u:JX vs) (D:∀j v,j<k->us[j]?=some v->vs[j]?=some v):w6 F (kH F b k us) ρ ρ/\WR T n B0 ρ (kH F b k us) R fr H a w:=by
 have hold:∀i j v,F i j=some v->kH F b k us i j=some v:=by grind[kH]
 have f:∀i j,i≠b->kH F b k us i j=F i j:=by
  intro i j I;unfold kH;rw[dK (λh=>I h.1)]
 have s:∀G n,Ha F (kH F b k us) G G n n:=λG n=>⟨hold,gY _,λ_ _=>rfl⟩;have t:w6 F (kH F b k us) ρ ρ:=⟨s _ _,λ_=>gY _,λ_ _ _=>rfl,λ_=>gY _,λ_ _ _=>rfl⟩;refine⟨t,⟨⟨?_,?_,h.g.inj,?_,?_,λg x P=>(h.g.CO g x P).grow (s _ _),?_⟩,h.size,h.defers,h.env.grow t,h.hn,h.lg,h.ag,?_,?_,?_,h.oM,h.lZ,h.q8⟩⟩
 .intro i j v r;unfold kH at r
  split at r
  .rename_i Q;obtain⟨rfl,S⟩:=Q;rw[cell_of_row w i j vs ty (0,0) C];exact D j v S r
  .exact h.g.GL i j v r
 .intro o cs y;obtain⟨J,A,B⟩:=h.g.ma o cs y;exact⟨J,A,B.grow (s _ _)⟩
 .intro o j y K;rw[f]
  .exact h.g.gF o j y K
  .rintro rfl;have:=h.oM o y;rw[q] at this;cases this
 .intro i j l;rw[f]
  .exact h.g.fresh i j l
  .rintro rfl;have:=qH C;omega
 .intro U i j v r
  by_cases l:i=b
  .subst l;exact⟨vs,ty,_,C,.inl rfl,u⟩
  .rw[f _ _ l] at r;exact h.g.row U i j v r
 .intro d cs V;obtain⟨A,B,M,vs',L,N,O⟩:=h.box d cs V;exact⟨A,B,M,vs',L,N,O.mono λ_ _ _ h=>h.grow t⟩
 .intro k' m W i c sz X;obtain⟨A,B,M,Y,N,O⟩:=h.tok k' m W i c sz X
  grind
 .intro i j v r
  by_cases l:i=b
  .subst l;rw[q];simp
  .rw[f _ _ l] at r;exact h.qV i j v r
theorem uf{F:la}{b:Nat}{a j:Nat}(h:a≠b):kH F b k us a j=F a j:=by grind[kH]
end
def nE(P:Program)(t n:Nat)(parts:List (Nat×AV)):Option AV:=
 match oA P t with
 |some (_,sz)=>
  if parts.map (·.1)=List.range n/\parts.all (λp=>p.2.cells.length==sz&&fG p.2)=true/\n*sz<=16777216 then some (.slice .full (parts.map λp=>p.2.norm))else none
 |none=>none
theorem G9(parts:List (Nat×α))(n:Nat)(h:parts.map (·.1)=List.range n):parts=(parts.map (·.2)).zipIdx.map λx=>(x.2,x.1):=by
 apply List.ext_getElem
 .simp
 .intro i a b
  have c:(parts.map (·.1))[i]?=(List.range n)[i]?:=by rw[h]
  grind
section
variable{P:Program} {T:eK} {n:Nat} {G0:Nat->Nat} {F0:la} {n0:Nat} {w0:World} {fr:Fr} {H:dV} {a:Act} {w:World}
theorem HG(w:World)(h:oA P t=some (e,sz)):(Instr.buildSlice t 0 #[]).run P w=.ok (.slice (some ⟨w.heap.size,0,none⟩) 0 0) (w.alloc (.cells #[] e)):=by
 obtain⟨i,z,hu,hi,a,_⟩:=nC h;simp[Instr.buildSlice,run_underlying hu,sizeOf,typeInfo,hi,Instr.fill,newRow]
 grind
theorem Tt:∀{parts:List (Nat×AV)} {pv:List (Nat×Value)},hS (λ(x:Nat×AV) (y:Nat×Value)=>x.1=y.1/\gI F ρ x.2 y.2) parts pv->(∀p∈parts,fG p.2=true)->hS (gT F ρ.G ρ.n) ((parts.map λp=>p.2.norm).flatMap AV.cells) ((pv.map (·.2)).flatMap λv=>v.cells.toList)/\∀c∈(parts.map λp=>p.2.norm).flatMap AV.cells,c.gO=true:=by
 intro parts pv h hn
 induction h with
 |nil=>exact⟨.nil,abm⟩|@cons p q ps j d _ ih=>
  obtain⟨i1,i2⟩:=ih λp f=>hn p (by simp[f]);have a:=hn p abm;have i:=d.2.cells (iU a);have k:=d.2.s7 (iU a)
  have b:hS (gT F ρ.G ρ.n) p.2.norm.cells q.2.cells.toList:=by
   rw[AV.tJ a];exact i.wH AV.kA λ_ _ _ h=>h.kA
  refine⟨?_,?_⟩
  .exact b.append i1
  .grind[AV.tJ,yo]
theorem A8(w:World){t:Nat}{parts:List (Nat×AV)}
  (f:nE P t k parts=some r) (b:hS (λ(x:Nat×AV) (y:Nat×Value)=>x.1=y.1/\gI F ρ x.2 y.2) parts pv):∃l us e sz,r=.slice .full l/\l.length=k/\k<=maxLen/\(∀x∈l,x.cells.length=sz)/\hS (gT F ρ.G ρ.n) (l.flatMap AV.cells) us/\(∀c∈l.flatMap AV.cells,c.gO=true)/\(Instr.buildSlice t k pv.toArray).run P w=.ok (.slice (some ⟨w.heap.size,0,none⟩) k k) (w.alloc (.cells us.toArray e)):=by
 unfold nE at f
 split at f
 .rename_i e sz C
  split at f
  .rename_i O;obtain⟨j,D,Q⟩:=O;injection f with f;subst f;obtain⟨i,z,hu,hi,R,S,o,T,h⟩:=nC C
   have a:∀p∈parts,p.2.cells.length=sz/\fG p.2=true:=by
    intro p B;have:=kZ.1 D p B;simpa using this
   have s:parts.length=k:=by have:=congrArg List.length j;simpa using this
   have u:pv.length=k:=by rw[<-b.length];exact s
   have H:pv.map (·.1)=List.range k:=by
    rw[<-j];clear j D a s u
    induction b with
    |nil=>rfl|cons K _ ih=>simp only[pP,ih,K.1]
   have I:=G9 pv k H
   have L:∀v∈pv.map (·.2),v.cells.size=sz:=by
    intro v U;obtain⟨q,V,rfl⟩:=ql.1 U;obtain⟨p,B,W⟩:=b.mem V;have K:=W.2.cells (iU (a p B).2);have:=K.length;rw[(a p B).1] at this;simpa using this.symm
   obtain⟨A,d⟩:=Tt b λp B=>(a p B).2
   have J:(Instr.buildSlice t k pv.toArray).run P w=.ok (.slice (some ⟨w.heap.size,0,none⟩) k k) (w.alloc (.cells ((pv.map (·.2)).flatMap λv=>v.cells.toList).toArray e)):=by
    rcases ajy k with M|hkpos
    .subst M;have:pv=[]:=Cd u;subst this;exact HG w C
    .have N:=fill_flat (sz:=sz) (pv.map (·.2)) 0 [] ((Array.range (k*sz)).map (z.cells[· %z.cells.size]!)).toList L abm (by simp[u])
     rw[<-I] at N;simp only[n9,Xr] at N;exact run_buildSlice w t e k pv.toArray _ i z hu hi R (by rw[o];omega) (by rw[o];have:=Nat.mul_pos hkpos h;omega) (by rw[o];exact N)
   refine⟨parts.map λp=>p.2.norm,_,e,sz,rfl,by simp[s],?_,?_,A,d,J⟩
   .have:k<=k*sz:=agC k h;simp only[maxLen];omega
   .grind[AV.tJ]
  .cases f
 .cases f
def E6(h:WR T n w0.heap.size ρ F R fr H a w)(J:Ext w0.heap.size G0 F0 n0 w0 ρ.G F H.length w){t:Nat}{parts:List (Nat×AV)}
   (C:nE P t k parts=some r) (i:hS (λ(x:Nat×AV) (y:Nat×Value)=>x.1=y.1/\gI F ρ x.2 y.2) parts pv) (K:∀d,dst=some d->d<n):∃v w',(Instr.buildSlice t k pv.toArray).run P w=.ok v w'/\SR T n G0 F0 n0 w0 (fr.put dst r) H (a.put dst v) w':=by
 obtain⟨l,us,e,sz,rfl,D,EH,A,c,f,q⟩:=A8 w C i;have s:=heap_alloc_new w (.cells us.toArray e);obtain⟨B,hw⟩:=(h.alloc (.cells us.toArray e)).freeze (us:=us) (k:=us.length) (h.lZ _ (gY _)) (λj=>h.g.fresh _ j (gY _)) s (λu hu=>jS (c.mono λ_ _ _ h=>j5.p h) f u (by simpa using hu)) (by intro j v _ L;simpa using L);refine⟨_,_,q,ρ,_,R,hw.put K (x:=.slice .full l) (v:=.slice (some ⟨w.heap.size,0,none⟩) k k) ?_,?_⟩
 .have I:=gT.slice (F:=kH F w.heap.size us.length us) (G:=ρ.G) (n:=ρ.n) (tag:=.full) (l:=l) (b:=w.heap.size) (o:=0) (base:=some ⟨w.heap.size,0,none⟩) (cap:=l.length) (sz:=sz)
   (.pV (c.mono λ_ _ _ h=>h.grow B.g)) (xk _ _ _) (λ_=>rfl) A f (gY _) (by rw[D];exact EH) (.inr ⟨rfl,rfl⟩)
  rw[D] at I;exact .p I
 .exact(J.alloc h.q8 (.cells us.toArray e)).freeze (F':=kH F w.heap.size us.length us) λb j C=>uf (by have:=h.q8;omega)
end
def pQ(fr:Fr)(tag:Tag)(l:List AV):Bool:=
 match tag with
 |.gK=>false|.full=>true|.loc k g=>g==fr.fy k&&fr.qU k==some l.length
def vt(tag:Tag)(qU:Nat->Option Nat):Nat->Option Nat:=
 match tag with
 |.loc k _=>gN qU k none|_=>qU
def grown(fr:Fr)(d:Nat)(tag:Tag)(l m:List AV):Fr:=
 {fr with env:=gN fr.env d (.slice (.loc d (fr.fy d+1)) (l++m)),qU:=gN (vt tag fr.qU) d (some (l.length+m.length)),fy:=gN fr.fy d (fr.fy d+1)}
def nq(P:Program)(T:eK)(c:Call)(dst:Option Nat)(K:Fr->dV->Prop)(fr:Fr)(H:dV):Prop:=
 match dst,c.args.toList,c.argTypes.toList with
 |some d,[s,x],[t,a]=>
  match oA P t,ev T fr s,ev T fr x with
  |some (_,sz),.slice tag l,.slice _ m=>
   a=t/\lG sz l=true/\lG sz m=true/\l.length+m.length<=kG/\(if pQ fr tag l then K (grown fr d tag l m) H else m=[]/\K (fr.put (some d) (.slice .gK l)) H)
  |_,_,_=>False
 |_,_,_=>False
section
variable{P:Program} {T:eK} {n:Nat} {G0:Nat->Nat} {F0:la} {n0:Nat} {w0:World} {fr:Fr} {H:dV} {a:Act} {w:World}
def G4(w:World)(h:oA P t=some (e,sz))(ty:TypeId)(base:Option Addr)(len cap:Nat)(a:len<=cap)(x:Value)(f:∃b c,x=.slice b 0 c):(Builtin.append_ #[t,t] ty #[.slice base len cap,x]).run P w=.ok (.slice base len cap) w:=by
 obtain⟨i,z,hu,hi,o,j,k,l,d⟩:=nC h;obtain⟨b,c,rfl⟩:=f;cases b with
 |none=>
  cases base with
  |none=>simp[Builtin.append_,run_underlying hu,sizeOf,typeInfo,hi,Builtin.lenOf,a,Builtin.firstCells]|some n=>simp[Builtin.append_,run_underlying hu,sizeOf,typeInfo,hi,Builtin.lenOf,a,Builtin.firstCells,storeCells]
 |some b=>
  cases base with
  |none=>simp[Builtin.append_,run_underlying hu,sizeOf,typeInfo,hi,Builtin.lenOf,a,Builtin.firstCells,loadCells,loadCellsFrom]|some n=>simp[Builtin.append_,run_underlying hu,sizeOf,typeInfo,hi,Builtin.lenOf,a,Builtin.firstCells,storeCells,loadCells,loadCellsFrom]
theorem yB(w:World)(t ty e n:TypeId)(i:TypeInfo)(o:P.underlying t=some (.slice e))(hi:P.info? e=some i)
  (g b d:Nat) (cur:Array Value) (hg:w.heap[g]?=some (.cells cur n (0,0)))
  (a:Addr) (m c:Nat) (news:List Value) (q:news.length=m*i.size) (f:∀j u,news[j]?=some u->w.cell? (a.add j)=some u) (r:∀u∈news,u.oneCell'=true)
  (h:b+m<=d) (k:b*i.size+news.length<=cur.size):(Builtin.append_ #[t,t] ty #[.slice (some ⟨g,0,none⟩) b d,.slice (some a) m c]).run P w=.ok (.slice (some ⟨g,0,none⟩) (b+m) d) (w.setRow g (cur.toList.take (b*i.size)++news++cur.toList.drop (b*i.size+news.length)).toArray):=by
 have s:=run_firstCells_some (P:=P) w i.size m a m c news q f;have l:=run_storeCells_at P g (b*i.size) n news 0 cur w hg (by simpa using k) r;simp[Builtin.append_,run_underlying o,sizeOf,typeInfo,hi,Builtin.lenOf,h,s,Addr.add_lit,l]
theorem WR.rename(h:WR T n B0 ρ F R fr H a w){cap d:Nat}(hd:d<n)
  (hp:gT F ρ.G ρ.n (.slice .gK l) (.slice base l.length cap)) (K:tag=.full/\cap=l.length\/∃k g,tag=.loc k g/\g=fr.fy k/\fr.qU k=some l.length/\uW ρ k g l base cap):∃ρ' S,ρ'.G=ρ.G/\ρ'.n=ρ.n/\(∀k g,tag=.loc k g->ρ'.A d (fr.fy d+1)=ρ.A k g)/\ρ'.ag d=fr.fy d+1/\WR T n B0 ρ' F S (grown fr d tag l []) H (a.put (some d) (.slice base l.length cap)) w:=by
 let f:Option (Nat×Nat×Nat):=match tag with|.loc k g=>ρ.A k g|_=>none
 let ρ':Maps:={ρ with A:=tm ρ.A d (fr.fy d+1) f,ag:=gN ρ.ag d (fr.fy d+1)}
 let S:Nat->oY:=match f with|some (b,_,_)=>gN R b (.arr d)|none=>R
 have u:w6 F F ρ ρ':=by
  refine⟨.refl,λ_=>gY _,λ_ _ _=>rfl,λk=>?_,λk g hg=>?_⟩
  .show ρ.ag k<=gN ρ.ag d (fr.fy d+1) k;unfold gN
   split
   .rename_i U;subst U;rw[h.ag];omega
   .exact gY _
  .show tm ρ.A d (fr.fy d+1) f k g=ρ.A k g;unfold tm;rw[dK];rintro⟨rfl,rfl⟩;rw[h.ag] at hg;omega
 have i:∀b c sz,f=some (b,c,sz)->∃k g,tag=.loc k g/\g=fr.fy k/\fr.qU k=some l.length/\ρ.A k (fr.fy k)=some (b,c,sz)/\base=some ⟨b,0,none⟩/\cap=c/\∀x∈l,x.cells.length=sz:=by
  intro b c sz q;rcases K with⟨rfl,_⟩|⟨k,g,rfl,rfl,y,M⟩
  .exact absurd q (by simp[f])
  .refine⟨k,_,rfl,rfl,y,q,?_⟩;unfold uW at M;have W:ρ.A k (fr.fy k)=some (b,c,sz):=q;rw[W] at M;exact M
 have B:∀I,(∀k,R I≠ .arr k)->S I=R I:=by
  intro I X;show(match f with|some (b,_,_)=>gN R b (.arr d)|none=>R) I=R I;cases q:f with
  |none=>rfl|some p=>
   obtain⟨b,c,sz⟩:=p;obtain⟨k,g,_,_,y,r,_⟩:=i b c sz q;have J:=(h.tok k _ y b c sz r).2.1;simp only[gN];rw[dK];rintro rfl;exact X k J
 have N:uW ρ' d (fr.fy d+1) l base cap:=by grind[uW,tm]
 refine⟨ρ',S,rfl,rfl,?_,by show gN ρ.ag d (fr.fy d+1) d=_;simp[gN],⟨⟨h.g.GL,h.g.ma,h.g.inj,h.g.gF,h.g.fresh,h.g.CO,h.g.row⟩,by rw[EB];exact h.size,by rw[put_defers];exact h.defers,?_,h.hn,h.lg,?_,?_,?_,?_,?_,?_,h.q8⟩⟩
 .rintro k g rfl;show tm ρ.A d (fr.fy d+1) f d (fr.fy d+1)=ρ.A k g;simp[tm,f]
 .have h0:=(h.env.grow u).put (d:=some d) (by intro C he;injection he with he;subst he;rw[h.size];exact hd) (x:=.slice (.loc d (fr.fy d+1)) l) (v:=.slice base l.length cap)
   (.cell (.loc (hp.grow u.g) (by show _<=gN ρ.ag d (fr.fy d+1) d;simp[gN]) N))
  simp only[grown,yc];exact h0
 .intro k;show gN ρ.ag d (fr.fy d+1) k=gN fr.fy d (fr.fy d+1) k;unfold gN
  split
  .rfl
  .exact h.ag k
 .intro C cs Y;obtain⟨h1,h2,h3,vs,ty,h4,h5⟩:=h.box C cs Y;exact⟨h1,by rw[B _ (by intro k;show R (ρ.L C (fr.gen C))≠_;rw[h2];simp)];exact h2,h3,vs,ty,h4,h5.mono λ_ _ _ h=>h.grow u⟩
 .intro k m s b c sz q;simp only[grown,gN] at s
  by_cases t:k=d
  .subst t;simp only[if_true,wZ,Gg,w5] at s;subst s
   have O:(grown fr k tag l []).fy k=fr.fy k+1:=by simp[grown,gN]
   rw[O] at q
   have V:ρ'.A k (fr.fy k+1)=f:=by show tm ρ.A k (fr.fy k+1) f k (fr.fy k+1)=f;simp[tm]
   rw[V] at q;obtain⟨k2,g2,_,_,y,r,ao,aq,ar⟩:=i b c sz q;obtain⟨O,V,Z,ad,P,e5⟩:=h.tok k2 _ y b c sz r;refine⟨O,?_,Z,ad,P,e5⟩;show(match f with|some (b,_,_)=>gN R b (.arr k)|none=>R) b=.arr k;rw[q];simp[gN]
  .simp only[dK t] at s
   have O:(grown fr d tag l []).fy k=fr.fy k:=by simp[grown,gN,t]
   rw[O] at q
   have V:ρ'.A k (fr.fy k)=ρ.A k (fr.fy k):=by show tm ρ.A d (fr.fy d+1) f k (fr.fy k)=_;simp[tm,t]
   rw[V] at q
   have Q:fr.qU k=some m/\∀k2 g2,tag=.loc k2 g2->k≠k2:=by
    unfold vt at s
    split at s
    .rename_i k2 g2;simp only[gN] at s
     split at s
     .cases s
     .rename_i ae;refine⟨s,λk3 g3 he=>?_⟩;injection he with af aw;subst af;exact ae
    .rename_i ah;exact⟨s,λk3 g3 he=>absurd he (ah k3 g3)⟩
   obtain⟨Z,P,e5,ai,e6,e7⟩:=h.tok k m Q.1 b c sz q;refine⟨Z,?_,e5,ai,e6,e7⟩;show(match f with|some (b,_,_)=>gN R b (.arr d)|none=>R) b=.arr k;cases ak:f with
   |none=>exact P|some p=>
    obtain⟨b3,c3,D⟩:=p;obtain⟨k2,g2,an,_,y,r,_⟩:=i b3 c3 D ak;have J:=(h.tok k2 _ y b3 c3 D r).2.1;simp only[gN];rw[dK]
    .exact P
    .rintro rfl;rw[P] at J;injection J with J;exact Q.2 k2 g2 an J
 .intro b j v hf;intro C;have U:=h.qV b j v hf C;show(match f with|some (b,_,_)=>gN R b (.arr d)|none=>R) b≠ .box C;cases q:f with
  |none=>exact U|some p=>
   obtain⟨b3,c3,D⟩:=p;simp only[gN]
   split
   .simp
   .exact U
 .intro o M;have:=h.oM o M;rw[B _ (by intro k;show R (ρ.G o)≠_;rw[this];simp)];exact this
 .intro b hb;have:=h.lZ b hb;rw[B b (by rw[this];simp)];exact this
end
end Go.lD
namespace Go.lD
open Go
variable{B news us:List Value}{F:la}{G:Nat->Nat}{K:Fr->dV->Prop}{P:Program}{R:Nat->oY}{a cur vs:Array Value}{base:Option Addr}{c:Call}{d k sz:Nat}{dst:Option Nat}{e t ty u:TypeId}{i:TypeInfo}{l m:List AV}{tag:Tag}{α:Type}{ρ:Maps}
theorem N1(f:Nat->α)(i:Nat)(x y:α):gN (gN f i x) i y=gN f i y:=by grind[gN]
theorem AD(f:Nat->α)(i j:Nat)(x:α)(h:j≠i):gN f i x j=f j:=by simp[gN,h]
theorem xE(h:∀u∈a.toList,u.oneCell'=true)(b:0<a.size)(k:Nat):∀u∈(Builtin.zeroCells a k).toList,u.oneCell'=true:=by
 intro u hu;unfold Builtin.zeroCells at hu;simp only[PK,ql] at hu;obtain⟨i,_,rfl⟩:=hu;have c:i%a.size<a.size:=acE _ b
 grind
theorem Qd(h:oA P t=some (e,sz)){z:Value}(hi:P.info? e=some i)(a:i.zero=some z):∀u∈z.cells.toList,u.oneCell'=true:=by grind[oA]
section
variable{P:Program} {T:eK} {n B0:Nat} {ρ:Maps} {F:la} {R:Nat->oY} {fr:Fr} {H:dV} {a:Act} {w:World}
theorem WR.extend(h:WR T n B0 ρ F R fr H a w){p q b c:Nat}(ht:fr.qU d=some p)(hA:ρ.A d (fr.fy d)=some (b,c,sz))(hq:news.length=q*sz)(L:p+q<=c)(C:∀u∈news,u.oneCell'=true)
   (S:w.heap[b]?=some (.cells cur ty (0,0))):∃F',w6 F F' ρ ρ/\(∀f j,f≠b->F' f j=F f j)/\(∀(j:Nat) (v:Value),news[j]?=some v->F' b (p*sz+j)=some v)/\WR T n B0 ρ F' R {fr with qU:=gN fr.qU d (some (p+q))} H a (w.setRow b (cur.toList.take (p*sz)++news++cur.toList.drop (p*sz+news.length)).toArray):=by
 obtain⟨h1,h2,h3,an,⟨vs,s,U,h5,M⟩,h6⟩:=h.tok d p ht b c sz hA;rw[S] at U;injection U with U;injection U with e1 e2;subst e1;subst e2;have V:(p+q)*sz<=c*sz:=Ki _ L;rw[Ce] at V
 have W:p*sz<=cur.toList.length:=abv
 let F':la:=λf j=>if f=b/\p*sz<=j/\j<p*sz+news.length then news[j-p*sz]?else F f j
 have hold:∀f j v,F f j=some v->F' f j=some v:=by
  intro f j v r;show(if f=b/\p*sz<=j/\j<p*sz+news.length then news[j-p*sz]?else F f j)=some v;rw[dK]
  .exact r
  .rintro⟨rfl,K,_⟩;rw[h6 j K] at r;cases r
 have i:∀f j,f≠b->F' f j=F f j:=by
  intro f j t;show(if f=b/\p*sz<=j/\j<p*sz+news.length then news[j-p*sz]?else F f j)=F f j;rw[dK (λh=>t h.1)]
 have N:∀(j:Nat) (v:Value),news[j]?=some v->F' b (p*sz+j)=some v:=by
  intro j v hv;have K:=(ru.1 hv).1;show(if b=b/\p*sz<=p*sz+j/\p*sz+j<p*sz+news.length then news[p*sz+j-p*sz]?else F b (p*sz+j))=some v;rw[dO ⟨rfl,VW,VW⟩,Nat.add_sub_cancel_left];exact hv
 have D:∀G n,Ha F F' G G n n:=λG n=>⟨hold,gY _,λ_ _=>rfl⟩;have I:w6 F F' ρ ρ:=⟨D _ _,λ_=>gY _,λ_ _ _=>rfl,λ_=>gY _,λ_ _ _=>rfl⟩
 have y:∀f,R f≠ .arr d->f≠b:=by rintro f l rfl;exact l h2
 have O:JX (cur.toList.take (p*sz)++news++cur.toList.drop (p*sz+news.length)).toArray:=by
  intro u hu;simp only[tl] at hu;rcases hu with(hu|hu)|hu
  .exact M u (C' hu)
  .exact C u hu
  .exact M u (Hp hu)
 have B:=setRow_heap w b cur (cur.toList.take (p*sz)++news++cur.toList.drop (p*sz+news.length)).toArray ty (0,0) S;refine⟨F',I,i,N,⟨⟨?_,?_,h.g.inj,?_,?_,λg x hx=>(h.g.CO g x hx).grow (D _ _),?_⟩,h.size,h.defers,h.env.grow I,h.hn,h.lg,h.ag,?_,?_,?_,h.oM,?_,by rw[size_setRow];exact h.q8⟩⟩
 .intro f j v r
  by_cases l:f=b
  .subst l;rw[cell_of_row _ f j _ ty (0,0) B];simp only[ajZ];change (if f=f/\p*sz<=j/\j<p*sz+news.length then news[j-p*sz]?else F f j)=some v at r
   split at r
   .rename_i hc;rw[tv,tS (by rw[Dy];omega),Dy,YJ W,uJ VW];exact r
   .rename_i hc
    have K:j<p*sz:=by
     rcases uC j (p*sz)with h'|h'
     .exact h'
     .rw[h6 j h'] at r;cases r
    have:=h.g.GL f j v r;rw[cell_of_row w f j cur ty (0,0) S] at this;rw[tv,uJ (by rw[Dy];omega),TC,dO K];simpa using this
  .rw[cell_setRow_other _ _ _ _ _ l];rw[i _ _ l] at r;exact h.g.GL f j v r
 .intro o cs P;obtain⟨X,g1,g2⟩:=h.g.ma o cs P;refine⟨X,?_,g2.grow (D _ _)⟩;rw[setRow_other]
  .exact g1
  .exact y _ (by rw[h.oM o (ru.1 P).1];simp)
 .intro o j P Y;rw[i]
  .exact h.g.gF o j P Y
  .exact y _ (by rw[h.oM o P];simp)
 .intro f j l;rw[size_setRow] at l;rw[i]
  .exact h.g.fresh f j l
  .rintro rfl;have:=qH S;omega
 .intro hT f j v r
  by_cases l:f=b
  .subst l;exact⟨_,ty,_,B,.inl rfl,O⟩
  .rw[i _ _ l] at r;obtain⟨Z,ad,ae,g1,g2⟩:=h.g.row hT f j v r;exact⟨Z,ad,ae,by rw[setRow_other _ _ _ _ l];exact g1,g2⟩
 .intro d' cs af;obtain⟨g1,g2,g3,vs',s,g4,g5⟩:=h.box d' cs af;refine⟨g1,g2,g3,vs',s,?_,g5.mono λ_ _ _ h=>h.grow I⟩;rw[setRow_other]
  .exact g4
  .exact y _ (by rw[g2];simp)
 .intro k m Q f c' ah ai;simp only[gN] at Q
  by_cases J:k=d
  .subst J;simp only[if_true,w5] at Q;subst Q
   grind
  .simp only[dK J] at Q;obtain⟨g1,g2,g3,ak,⟨vs',s,g4,g5⟩,g6⟩:=h.tok k m Q f c' ah ai;have t:f≠b:=y _ (by rw[g2];simp[J]);refine⟨g1,g2,g3,ak,⟨vs',s,by rw[setRow_other _ _ _ _ t];exact g4,g5⟩,λj K=>?_⟩;rw[i _ _ t];exact g6 j K
 .intro f j v r
  by_cases l:f=b
  .subst l;rw[h2];simp
  .rw[i _ _ l] at r;exact h.qV f j v r
 .intro f l;rw[size_setRow] at l;exact h.lZ f l
def WR.Z4(h:WR T n B0 ρ F R fr H a w){b:Nat}{c:Nat}(hd:d<n)(hb:B0<=b)(q:R b=.free)
  (hF:∀j,F b j=none) (X:w.heap[b]?=some (.cells vs ty (0,0))) (B:JX vs) (Y:vs.size=c*sz) (Z:0<l.length+m.length) (hp:l.length+m.length<=c) (hc:c<=maxLen) (ak:us.length=(l.length+m.length)*sz)
  (K:∀(j:Nat) (v:Value),us[j]?=some v->vs[j]?=some v) (t:hO F ρ.G ρ.n ((l++m).flatMap AV.cells) us) (M:∀x∈(l++m).flatMap AV.cells,x.gO=true) (N:∀x∈l++m,x.cells.length=sz):∃ρ' O,ρ'.G=ρ.G/\WR T n B0 ρ' (kH F b us.length us) O (grown fr d tag l m) H (a.put (some d) (.slice (some ⟨b,0,none⟩) (l.length+m.length) c)) w:=by
 obtain⟨C,P⟩:=h.freeze (k:=us.length) (us:=us) q hF X B (λj v _ hv=>K j v hv)
 let ρ':Maps:={ρ with A:=tm ρ.A d (fr.fy d+1) (some (b,c,sz)),ag:=gN ρ.ag d (fr.fy d+1)}
 let O:Nat->oY:=gN R b (.arr d)
 have u:w6 F (kH F b us.length us) ρ ρ':=by
  refine⟨C.g,λ_=>gY _,λ_ _ _=>rfl,λk=>?_,λk g hg=>?_⟩
  .show ρ.ag k<=gN ρ.ag d (fr.fy d+1) k;unfold gN
   split
   .rename_i h';subst h';rw[h.ag];omega
   .exact gY _
  .show tm ρ.A d (fr.fy d+1) (some (b,c,sz)) k g=ρ.A k g;unfold tm;rw[dK];rintro⟨rfl,rfl⟩;rw[h.ag] at hg;omega
 have D:w6 (kH F b us.length us) (kH F b us.length us) ρ ρ':=⟨.refl,u.lg,u.L,u.ag,u.A⟩
 have r:∀f,R f≠ .free->O f=R f:=by
  intro f i;show gN R b (.arr d) f=R f;unfold gN;rw[dK];rintro rfl;exact i q
 have an:∀f,R f≠ .free->f≠b:=by rintro f i rfl;exact i q
 refine⟨ρ',O,rfl,⟨P.g,by rw[EB];exact h.size,by rw[put_defers];exact h.defers,?_,h.hn,h.lg,?_,?_,?_,?_,?_,?_,h.q8⟩⟩
 .have Q:gI (kH F b us.length us) ρ' (.slice (.loc d (fr.fy d+1)) (l++m)) (.slice (some ⟨b,0,none⟩) (l.length+m.length) c):=by
   have hlen:(l++m).length=l.length+m.length:=oV
   have S:=gT.slice (F:=kH F b us.length us) (G:=ρ'.G) (n:=ρ'.n) (tag:=.gK) (l:=l++m) (b:=b) (o:=0) (base:=some ⟨b,0,none⟩) (cap:=c) (sz:=sz)
    (t.grow C.g) (xk F b us) (λ_=>rfl) N M VW hc (.inl rfl)
   rw[hlen] at S;rw[<-hlen];refine .cell (.loc (by rw[hlen];exact S) (by show _<=gN ρ.ag d (fr.fy d+1) d;simp[gN]) ?_);unfold uW
   have e:ρ'.A d (fr.fy d+1)=some (b,c,sz):=by show tm ρ.A d (fr.fy d+1) (some (b,c,sz)) d (fr.fy d+1)=_;simp[tm]
   rw[e];exact⟨rfl,rfl,N⟩
  have h1:=(P.env.grow D).put (d:=some d) (by intro U he;injection he with he;subst he;rw[h.size];exact hd) Q;exact h1
 .intro k;show gN ρ.ag d (fr.fy d+1) k=gN fr.fy d (fr.fy d+1) k;unfold gN
  split
  .rfl
  .exact h.ag k
 .intro U cs ad;obtain⟨h1,h2,h3,vs',ae,h4,h5⟩:=P.box U cs ad;exact⟨h1,by rw[r _ (by show R (ρ.L U (fr.gen U))≠_;rw[h2];simp)];exact h2,h3,vs',ae,h4,h5.mono λ_ _ _ h=>h.grow D⟩
 .intro k m' s f c' af I;simp only[grown,gN] at s
  by_cases y:k=d
  .subst y;simp only[if_true,w5] at s;subst s
   have V:(grown fr k tag l m).fy k=fr.fy k+1:=by simp[grown,gN]
   rw[V] at I
   have J:ρ'.A k (fr.fy k+1)=some (b,c,sz):=by show tm ρ.A k (fr.fy k+1) (some (b,c,sz)) k (fr.fy k+1)=_;simp[tm]
   rw[J] at I;injection I with I;injection I with V J;injection J with J e3;subst V;subst J;subst e3;refine⟨hb,by show gN R b (.arr k) b=.arr k;simp[gN],⟨Z,hp⟩,hc,⟨vs,ty,X,Y,B⟩,λj hj=>?_⟩;show(if b=b/\j<us.length then us[j]?else F b j)=none;rw[dK VW];exact hF j
  .simp only[dK y] at s
   have V:(grown fr d tag l m).fy k=fr.fy k:=by simp[grown,gN,y]
   rw[V] at I
   have J:ρ'.A k (fr.fy k)=ρ.A k (fr.fy k):=by show tm ρ.A d (fr.fy d+1) _ k (fr.fy k)=_;simp[tm,y]
   rw[J] at I
   have ah:fr.qU k=some m':=by
    unfold vt at s
    split at s
    .simp only[gN] at s
     split at s
     .cases s
     .exact s
    .exact s
   obtain⟨e3,e4,e5,ai,e6,e7⟩:=P.tok k m' ah f c' af I;exact⟨e3,by rw[r _ (by rw[e4];simp)];exact e4,e5,ai,e6,e7⟩
 .intro f j v hf
  by_cases i:f=b
  .subst i;intro U;show gN R f (.arr d) f≠_;simp[gN]
  .have e:O f=R f:=by show gN R b (.arr d) f=R f;simp[gN,i]
   rw[e];exact P.qV f j v hf
 .intro o ho;have:=h.oM o ho;rw[r _ (by show R (ρ.G o)≠_;rw[this];simp)];exact this
 .intro f i
  have W:f≠b:=by rintro rfl;have:=qH X;omega
  show gN R b (.arr d) f=.free;simp only[gN,dK W];exact h.lZ f i
end
section
variable{P:Program} {T:eK} {n:Nat} {G0:Nat->Nat} {F0:la} {n0:Nat} {w0:World} {fr:Fr} {H:dV} {a:Act} {w:World}
def Fg(w:World)(o:oA P t=some (e,sz))(ty:TypeId)(base:Option Addr)(a d:Nat)(f:List Value)(holds:f.length=a*sz)
  (D:base=none->a=0/\d=0) (F:∀l,base=some l->∀j v,f[j]?=some v->w.cell? (l.add j)=some v)
  (l:Addr) (m c:Nat) (news:List Value) (r:news.length=m*sz) (hn:∀j v,news[j]?=some v->w.cell? (l.add j)=some v) (n:d<a+m) (q:a+m<=kG):∃cap rest,a+m<=cap/\cap<=maxLen/\(∀u∈rest,u.oneCell'=true)/\(f++news++rest).length=cap*sz/\(Builtin.append_ #[t,t] ty #[.slice base a d,.slice (some l) m c]).run P w=.ok (.slice (some ⟨w.heap.size,0,none⟩) (a+m) cap) (w.drew.alloc (.cells (f++news++rest).toArray e)):=by
 obtain⟨i,z,hu,hi,s,x,y,A,C⟩:=nC o;subst y;have k:a+m<=549755813888:=q
 have h:(a+m)*i.bytes<=140737488355328:=by
  have:=Oa k A;omega
 have EH:a+m<=maxLen:=by simp only[maxLen];omega
 have B:=grownCap_ge w (a+m) d e;have hle:=grownCap_le_maxLen w (a+m) d e EH;refine⟨grownCap w (a+m) d e,(Builtin.zeroCells z.cells (grownCap w (a+m) d e-(a+m))).toList,B,hle,xE (Qd o hi s) VW _,?_,?_⟩
 .simp only[oV,agM,size_zeroCells,x,holds,r,<-Ce]
  congr 1
  omega
 .have G:(f++news++(Builtin.zeroCells z.cells (grownCap w (a+m) d e-(a+m))).toList).toArray=f.toArray++news.toArray++Builtin.zeroCells z.cells (grownCap w (a+m) d e-(a+m)):=by
   simp
  rw[G];cases base with
  |some b=>
   exact run_append_grow w t ty e i z hu hi s b a d f holds (F b rfl) l m c news r hn n VW (growslice_fits n h)
  |none=>
   obtain⟨rfl,rfl⟩:=D rfl;have:f=[]:=Cd (by simpa using holds);subst this;simp only[vo] at n h k|-;have:=run_append_nil (P:=P) w t ty e i z hu hi s l m c news r hn VW VW VW;simpa using this
structure Uh (P:Program) (w:World) (t u e:TypeId) (sz k:Nat) (x:Value) (news:List Value) (ty:TypeId):Prop where
 none:k=0->∀(base:Option Addr) (len cap:Nat),len<=cap->(Builtin.append_ #[t,u] ty #[.slice base len cap,x]).run P w=.ok (.slice base len cap) w
 room:0<k->∀(g sLen sCap:Nat) (cur:Array Value) (e':TypeId),w.heap[g]?=some (.cells cur e' (0,0))->sLen+k<=sCap->sLen*sz+news.length<=cur.size->(Builtin.append_ #[t,u] ty #[.slice (some ⟨g,0,.none⟩) sLen sCap,x]).run P w=.ok (.slice (some ⟨g,0,.none⟩) (sLen+k) sCap) (w.setRow g (cur.toList.take (sLen*sz)++news++cur.toList.drop (sLen*sz+news.length)).toArray)
 grow:0<k->∀(base:Option Addr) (sLen sCap:Nat) (olds:List Value),olds.length=sLen*sz->(base=.none->sLen=0/\sCap=0)->(∀ad,base=some ad->∀j v,olds[j]?=some v->w.cell? (ad.add j)=some v)->sCap<sLen+k->sLen+k<=kG->∃cap rest,sLen+k<=cap/\cap<=maxLen/\(∀u∈rest,u.oneCell'=true)/\(olds++news++rest).length=cap*sz/\(Builtin.append_ #[t,u] ty #[.slice base sLen sCap,x]).run P w=.ok (.slice (some ⟨w.heap.size,0,.none⟩) (sLen+k) cap) (w.drew.alloc (.cells (olds++news++rest).toArray e))
def GX(h:WR T n w0.heap.size ρ F R fr H a w)(hx:Ext w0.heap.size G0 F0 n0 w0 ρ.G F H.length w){sv xv:Value}
  (aG:oA P t=some (e,sz)) (aH:gI F ρ (.slice tag l) sv) (aI:lG sz l=true) (src:Uh P w t u e sz m.length xv B ty) (r:hO F ρ.G ρ.n (m.flatMap AV.cells) B) (s:∀y∈m.flatMap AV.cells,y.gO=true)
  (N:∀y∈m,y.cells.length=sz) (aq:l.length+m.length<=kG) (O:d<n)
  (hK:if pQ fr tag l then K (grown fr d tag l m) H else m=[]/\K (fr.put (some d) (.slice .gK l)) H):∃v w' fr' H',(Builtin.append_ #[t,u] ty #[sv,xv]).run P w=.ok v w'/\K fr' H'/\SR T n G0 F0 n0 w0 fr' H' (a.put (some d) v) w':=by
 obtain⟨base,cap,b,o,aW,vs,aJ,f,ai,ar⟩:=n7 aH;rw[aJ];obtain⟨i,z,hu,hi,hz,aX,aY,aZ,aU⟩:=nC aG;have C:=rU aI f.sz;have D:gT F ρ.G ρ.n (.slice .gK l) (.slice base l.length cap):=.slice f.cells f.has f.base C f.s7 f.BT f.EH (.inl rfl)
 split at hK
 .rename_i L
  have Q:tag=.full/\cap=l.length\/∃k g,tag=.loc k g/\g=fr.fy k/\fr.qU k=some l.length/\uW ρ k g l base cap:=by
   unfold pQ at L
   split at L
   .cases L
   .exact .inl ⟨rfl,ai rfl⟩
   .rename_i k g;simp only[gJ,agN] at L;exact .inr ⟨k,g,rfl,L.1,L.2,(ar k g rfl).2⟩
  by_cases hm:m=[]
  .subst hm;obtain⟨ρ',R',hG,_,_,_,hw⟩:=h.rename O D Q;refine⟨_,_,_,_,src.none rfl _ _ _ f.BT,hK,ρ',F,R',?_,by rw[hG];exact hx⟩;exact hw
  .have S:B.length=m.length*sz:=by rw[<-r.length,oL N]
   have J:vs.length=l.length*sz:=by rw[<-f.cells.length,oL C]
   have U:0<m.length:=Xy.2 hm
   by_cases I:l.length+m.length<=cap
   .--in place
    rcases Q with⟨rfl,hc⟩|⟨k,g,rfl,hg,ht,Z⟩
    .omega
    .have M:=Z;unfold uW at M;cases X:ρ.A k g with
     |none=>rw[X] at M;simp only at M;omega
     |some p=>
      obtain⟨b3,c3,x⟩:=p;rw[X] at M;simp only at M;obtain⟨rfl,rfl,aK⟩:=M;rw[hg] at X;obtain⟨t1,t2,t3,a1,⟨cur,aL,t4,t5,a6⟩,t6⟩:=h.tok k _ ht b3 cap x X;have ak:∀u∈B,u.oneCell'=true:=jS (r.rV.mono λ_ _ _ h=>j5.p h) s
      have ae:l≠[]:=by rintro rfl;exact absurd t3.1 abm
      have aw:x=sz:=by
       cases l with
       |nil=>exact absurd rfl ae|cons y ys=>rw[<-aK y abm,C y abm]
      subst aw;obtain⟨ρ',R',hG,ax,ay,az,hw⟩:=h.rename O D (tag:=.loc k g) (.inr ⟨k,g,rfl,hg,ht,Z⟩)
      have an:ρ'.A d ((grown fr d (.loc k g) l []).fy d)=some (b3,cap,x):=by
       have e:(grown fr d (.loc k g) l []).fy d=fr.fy d+1:=by simp[grown,gN]
       rw[e,ay k g rfl,hg];exact X
      have aA:(grown fr d (.loc k g) l []).qU d=some l.length:=by simp[grown,gN]
      obtain⟨F',aB,Y,aC,aM⟩:=hw.extend aA an S I ak t4
      have aN:b=b3/\o=0:=by
       have:=f.base ae;injection this with this;injection this with e1 e2;exact⟨e1.symm,e2.symm⟩
      obtain⟨rfl,rfl⟩:=aN
      have V:=src.room U b l.length cap cur aL t4 I (by
       rw[S,<-Ce,t5];exact Ki _ I)
      have aD:gI F' ρ' (.slice (.loc d (fr.fy d+1)) (l++m)) (.slice (some ⟨b,0,none⟩) (l.length+m.length) cap):=by
       have hlen:(l++m).length=l.length+m.length:=oV
       have aE:F'.has b 0 (vs++B):=by
        intro q v W;rcases uC q vs.length with hq|hq
        .rw[uJ hq] at W;exact aB.g.mF _ _ _ (f.has q v W)
        .rw[tS hq] at W;have:=aC _ v W;rw[J] at hq this;rw[show l.length*x+(q-l.length*x)=0+q by omega] at this;exact this
       have af:∀y∈l++m,y.cells.length=x:=by
        intro y hy;rcases tl.1 hy with hy|hy
        .exact C y hy
        .exact N y hy
       have aO:=gT.slice (F:=F') (G:=ρ'.G) (n:=ρ'.n) (tag:=.gK) (l:=l++m) (b:=b) (o:=0) (base:=some ⟨b,0,none⟩) (cap:=cap) (sz:=x) (vs:=vs++B)
        (by
         rw[aaZ,hG,ax];have aF:=aB.g;rw[hG,ax] at aF
         exact(f.cells.append r).grow aF) aE (λ_=>rfl) af (by
         intro y hy;rw[aaZ] at hy;rcases tl.1 hy with hy|hy
         .exact f.s7 y hy
         .exact s y hy) VW f.EH (.inl rfl)
       rw[<-hlen];refine .cell (.loc aO (by rw[az];exact gY _) ?_);unfold uW
       have e:ρ'.A d (fr.fy d+1)=some (b,cap,x):=by rw[ay k g rfl,hg];exact X
       rw[e];exact⟨rfl,rfl,af⟩
      have ah:=aM.put (d:=some d) (λ_ hh=>by cases hh;exact O) aD;refine⟨_,_,_,_,V,hK,ρ',F',R',?_,?_⟩
      .have e1:({(grown fr d (.loc k g) l [])with qU:=gN (grown fr d (.loc k g) l []).qU d (some (l.length+m.length))}:Fr).put (some d) (.slice (.loc d (fr.fy d+1)) (l++m))=grown fr d (.loc k g) l m:=by
        simp only[grown,Fr.put,N1]
       have e2:(a.put (some d) (.slice (some ⟨b,0,none⟩) l.length cap)).put (some d) (.slice (some ⟨b,0,none⟩) (l.length+m.length) cap)=a.put (some d) (.slice (some ⟨b,0,none⟩) (l.length+m.length) cap):=by
        simp[Act.put]
       rw[e1,e2] at ah;exact ah
      .rw[hG];exact(hx.setRow (.inl t1) _).freeze λb' j aP=>Y b' j VW
   .--a new row
    have aQ:base=none->l.length=0/\cap=0:=by
     rintro rfl
     have ao:l=[]:=by
      rcases agw l with h'|⟨_,_,h'⟩
      .exact h'
      .have:=f.base (by rw[h'];simp);cases this
     subst ao;refine⟨rfl,?_⟩;rcases Q with⟨_,hc⟩|⟨k,g,rfl,hg,ht,Z⟩
     .simpa using hc
     .unfold uW at Z;cases X:ρ.A k g with
      |none=>rw[X] at Z;simpa using Z
      |some p=>
       obtain⟨b3,c3,x⟩:=p;rw[X] at Z;cases Z.1
    have aR:∀ad,base=some ad->∀(j:Nat) (v:Value),vs[j]?=some v->w.cell? (ad.add j)=some v:=by
     intro ad aS j v W
     have ao:l≠[]:=by
      rintro rfl;have:vs=[]:=Cd (by rw[J];simp);subst this;simp at W
     have:=f.base ao;rw[aS] at this;injection this with this;subst this;rw[Addr.add_lit];exact h.g.GL b _ v (f.has j v W)
    obtain⟨c',rest,r1,r2,r0,r3,V⟩:=src.grow U base l.length cap vs J aQ aR VW aq;have aT:=h.drew.alloc (.cells (vs++B++rest).toArray e);have aV:w.drew.heap.size=w.heap.size:=rfl
    obtain⟨ρ',R',hG,hw⟩:=aT.Z4 (b:=w.heap.size) (us:=vs++B) (c:=c') (sz:=sz) (tag:=tag) (l:=l) (m:=m) O h.q8 (h.lZ _ (gY _)) (λj=>h.g.fresh _ j (gY _))
     (heap_alloc_new w.drew _) (by
      intro u hu;simp only[tl] at hu;rcases hu with(hu|hu)|hu
      .exact jS (f.cells.rV.mono λ_ _ _ h=>j5.p h) f.s7 u hu
      .exact jS (r.rV.mono λ_ _ _ h=>j5.p h) s u hu
      .exact r0 u hu) (by simpa using r3) VW r1 r2 (by rw[oV,J,S,Ce]) (by
      intro j v W;have hj:=(ru.1 W).1;simp only[ajZ];rw[uJ hj]
      exact W) (by rw[aaZ];exact f.cells.append r) (by
      intro y hy;rw[aaZ] at hy;rcases tl.1 hy with hy|hy
      .exact f.s7 y hy
      .exact s y hy) (by
      intro y hy;rcases tl.1 hy with hy|hy
      .exact C y hy
      .exact N y hy)
    refine⟨_,_,_,_,V,hK,ρ',_,R',hw,?_⟩;rw[hG];exact((hx.drew.alloc h.q8 _).freeze λb' j aP=>uf (by have:=h.q8;omega))
 .obtain⟨rfl,hK⟩:=hK;refine⟨_,_,_,_,src.none rfl _ _ _ f.BT,hK,ρ,F,R,?_,hx⟩;exact h.put (λ_ hh=>by cases hh;exact O) (.p D)
theorem Ot(f:oA P t=some (e,sz))(ty:TypeId){m cap b o:Nat}(A:0<m->base=some ⟨b,o,none⟩)(B:news.length=m*sz)
  (hn:∀j v,news[j]?=some v->w.cell? ((⟨b,o,none⟩:Addr).add j)=some v) (J:∀u∈news,u.oneCell'=true):Uh P w t t e sz m (.slice base m cap) news ty where
 none C a len h D:=G4 w f ty a len h D _ ⟨base,cap,by rw[C]⟩
 room s g c d cur K hg n x:=by
  obtain⟨i,z,hu,hi,L,F,G,H,y⟩:=nC f
  grind[yB]
 grow s a c d k holds q I r l:=by
  rw[A s];exact Fg w f ty a c d k holds q I ⟨b,o,.none⟩ m cap news B hn r l
def Ol(h:WR T n w0.heap.size ρ F R fr H a w)(U:Ext w0.heap.size G0 F0 n0 w0 ρ.G F H.length w)
  (k:nq P T c dst K fr H) (V:∀d,dst=some d->d<n) (r:∀x∈c.args.toList,jw x=true):∃v w' fr' H',(Builtin.append_ c.argTypes ty (c.args.map a.eval)).run P w=.ok v w'/\K fr' H'/\SR T n G0 F0 n0 w0 fr' H' (a.put dst v) w':=by
 unfold nq at k
 split at k
 .rename_i d s x t W i u;have D:=V d rfl;have X:c.argTypes=#[t,W]:=F2.1 (by rw[u]);have Y:c.args.map a.eval=#[a.eval s,a.eval x]:=F2.1 (by rw[PK,i];rfl);rw[X,Y];have y:=gG h.env h.iu s (r s (by rw[i];simp));have A:=gG h.env h.iu x (r x (by rw[i];simp))
  split at k
  .rename_i e sz tag l O m B hs I;obtain⟨rfl,J,L,C,k⟩:=k;rw[hs] at y;rw[I] at A;obtain⟨M,Q,S,o2,Z,ad,N,f,_,_⟩:=n7 A;have q:=rU L f.sz;rw[N]
   exact GX h U B y J (Ot B ty (b:=S) (o:=o2) (λhp=>f.base (Xy.1 hp)) (by rw[<-f.cells.length,oL q]) (λj v hv=>by
    rw[Addr.add_lit]
    exact h.g.GL S _ v (f.has j v hv)) (jS (f.cells.rV.mono λ_ _ _ h=>j5.p h) f.s7)) f.cells f.s7 q C D k
  .exact k.elim
 .exact k.elim
def qI(s:ByteArray):List AV:=s.data.toList.map λb=>AV.sc (.int .u8 (b.toNat:Int))
def DS(P:Program)(T:eK)(c:Call)(dst:Option Nat)(K:Fr->dV->Prop)(fr:Fr)(H:dV):Prop:=
 match dst,c.args.toList,c.argTypes.toList with
 |some d,[s,x],[t,a]=>
  match oA P t,P.underlying a,ev T fr s,ev T fr x with
  |some (_,sz),some .string,.slice tag l,.sc (.string y)=>
   sz=1/\lG 1 l=true/\l.length+y.size<=kG/\(if pQ fr tag l then K (grown fr d tag l (qI y)) H else qI y=[]/\K (fr.put (some d) (.slice .gK l)) H)
  |_,_,_,_=>False
 |_,_,_=>False
def S2(j:oA P t=some (e,1))(d:P.underlying u=some .string)(ty:TypeId)(s:ByteArray):Uh P w t u e 1 s.size (.string s) (Lib.strCells s) ty where
 none v base len cap F:=by
  obtain⟨i,z,hu,hi,x,n,k,o,l⟩:=nC j;have y:=Lib.run_firstCells_string (P:=P) w i.size s;have hn:Lib.strCells s=[]:=Cd (by rw[Lib.strCells_length];exact v);rw[v,hn] at y;cases base with
  |none=>simp[Builtin.append_,run_underlying hu,run_underlying d,sizeOf,typeInfo,hi,Builtin.lenOf,v,F,y]|some N=>simp[Builtin.append_,run_underlying hu,run_underlying d,sizeOf,typeInfo,hi,Builtin.lenOf,v,F,y,storeCells]
 room H g a c cur I hg q A:=by
  obtain⟨i,z,hu,hi,x,n,k,o,l⟩:=nC j;have y:=Lib.run_firstCells_string (P:=P) w 1 s;have B:=run_storeCells_at P g (a*1) I (Lib.strCells s) 0 cur w hg (by simpa using A) (Lib.strCells_oneCell s);simp only[Gg,Nat.mul_one] at B;simp[Builtin.append_,run_underlying hu,run_underlying d,sizeOf,typeInfo,hi,k,Builtin.lenOf,q,y,Addr.add_lit,B]
 grow H base a c f holds J K C D:=by
  obtain⟨i,z,hu,hi,x,n,k,o,l⟩:=nC j;have r:a+s.size<=549755813888:=D
  have h:(a+s.size)*i.bytes<=140737488355328:=by
   have:=Oa r o;omega
  have EH:a+s.size<=maxLen:=by simp only[maxLen];omega
  refine⟨grownCap w (a+s.size) c e,(Builtin.zeroCells z.cells (grownCap w (a+s.size) c e-(a+s.size))).toList,grownCap_ge w (a+s.size) c e,grownCap_le_maxLen w (a+s.size) c e EH,xE (Qd j hi x) VW _,?_,?_⟩
  .have:=grownCap_ge w (a+s.size) c e;simp only[oV,agM,size_zeroCells,n,holds,Lib.strCells_length];omega
  .have L:(f++Lib.strCells s++(Builtin.zeroCells z.cells (grownCap w (a+s.size) c e-(a+s.size))).toList).toArray=f.toArray++(Lib.strCells s).toArray++Builtin.zeroCells z.cells (grownCap w (a+s.size) c e-(a+s.size)):=by
    apply F2.1;simp
   rw[L];cases base with
   |some b=>exact Lib.run_append_grow_string w t u ty e i z hu d hi x b a c f (by rw[k];exact holds) (K b rfl) s C VW (growslice_fits C h)|none=>
    obtain⟨rfl,rfl⟩:=J rfl;have v:f=[]:=Cd (by simpa using holds);subst v;have G:=run_append_nil_string (P:=P) w t u ty e i z hu d hi x s VW VW (by rw[vo] at h;omega)
    have M:(s.data.map λb=>Value.int .u8 b.toNat)=(Lib.strCells s).toArray:=by
     apply Array.ext';simp[Lib.strCells]
    rw[M] at G;simpa using G
def Cv(s:ByteArray):(qI s).flatMap AV.cells=(Lib.strCells s).map AV.sc:=by
 unfold qI Lib.strCells
 induction s.data.toList with
 |nil=>rfl|cons b l ih=>simp only[pP,I3,ih];rfl
def wc:∀(L:List Value),(∀v∈L,yP v=true)->hO F G k (L.map AV.sc) L
 |[],_=>.nil|v::L,h=>.cons (.sc (h v abm)) (wc L λx a=>h x (by simp[a]))
def L6(h:WR T n w0.heap.size ρ F R fr H a w)(J:Ext w0.heap.size G0 F0 n0 w0 ρ.G F H.length w)
  (i:DS P T c dst K fr H) (L:∀d,dst=some d->d<n) (j:∀x∈c.args.toList,jw x=true):∃v w' fr' H',(Builtin.append_ c.argTypes ty (c.args.map a.eval)).run P w=.ok v w'/\K fr' H'/\SR T n G0 F0 n0 w0 fr' H' (a.put dst v) w':=by
 unfold DS at i
 split at i
 .rename_i d s x t M f k;have C:=L d rfl;have N:c.argTypes=#[t,M]:=F2.1 (by rw[k]);have O:c.args.map a.eval=#[a.eval s,a.eval x]:=F2.1 (by rw[PK,f];rfl);rw[N,O];have o:=gG h.env h.iu s (j s (by rw[f];simp));have q:=gG h.env h.iu x (j x (by rw[f];simp))
  split at i
  .rename_i e sz tag l y r u hs D;obtain⟨rfl,I,A,i⟩:=i;rw[hs] at o;rw[D] at q;rw[gr q]
   have hlen:(qI y).length=y.size:=by simp[qI]
   have Q:hO F ρ.G ρ.n ((qI y).flatMap AV.cells) (Lib.strCells y):=by
    rw[Cv];refine wc _ λv S=>?_;obtain⟨b,_,rfl⟩:=ql.1 S;rfl
   have U:∀c∈(qI y).flatMap AV.cells,c.gO=true:=λc B=>by
    rw[Cv] at B;obtain⟨v,_,rfl⟩:=ql.1 B;rfl
   have c3:∀c∈qI y,c.cells.length=1:=λc B=>by
    obtain⟨b,_,rfl⟩:=ql.1 B;rfl
   exact GX h J r o I (by rw[hlen];exact S2 r u ty y) Q U c3 (by rw[hlen];exact A) C i
  .exact i.elim
 .exact i.elim
end
end Go.lD
namespace Go.lD
open Go
variable{F:la}{K:Fr->dV->Prop}{P:Program}{R:Nat->oY}{c:Call}{dst:Option Nat}{e t ty:TypeId}{i:TypeInfo}{sz:Nat}{vs:Array Value}{ρ:Maps}
def jH(P:Program)(t:TypeId):Option (List AV):=
 match zeroOf P t with
 |some z=>if zr z=true/\fG (ofValue z) then some (ofValue z).cells else none|none=>none
theorem MF{cs:List AV}(h:jH P t=some cs):∃z,zeroOf P t=some z/\zr z=true/\fG (ofValue z)=true/\cs=(ofValue z).cells:=by grind[jH]
def zb(fr:Fr)(d:Nat)(cells:List AV)(len cap:Nat):Fr:=
 {fr with env:=gN fr.env d (.xQ d (fr.gen d+1) len cap),box:=gN fr.box d (some cells),gen:=gN fr.gen d (fr.gen d+1)}
def yZ(n:Nat):List AV:=List.replicate n .undef
def D9(P:Program)(T:eK)(c:Call)(dst:Option Nat)(K:Fr->dV->Prop)(fr:Fr)(H:dV):Prop:=
 match dst,c.args.toList,c.argTypes.toList with
 |some d,[s,x],[t,f]=>
  match oA P t,ev T fr x with
  |some (e,sz),.slice _ m=>
   f=t/\lG sz m=true/\(jH P e).isSome=true/\0<m.length/\match ev T fr s with
   |.slice .full l=>lG sz l=true/\l.length+m.length<=kG/\∀cap,l.length+m.length<=cap->K (zb fr d (l.flatMap AV.cells++m.flatMap AV.cells++yZ ((cap-(l.length+m.length))*sz)) (l.length+m.length) cap) H|.xQ b g len cap=>g=fr.gen b/\len+m.length<=kG/\match fr.box b with
    |some cs=>cs.length=cap*sz/\(len+m.length<=cap->K {fr with env:=gN fr.env d (.xQ b g (len+m.length) cap),box:=gN fr.box b (some (setCells cs (len*sz) (m.flatMap AV.cells)))} H)/\(∀a,cap<len+m.length->len+m.length<=a->K (zb fr d (cs.take (len*sz)++m.flatMap AV.cells++yZ ((a-(len+m.length))*sz)) (len+m.length) a) H)|none=>False
   |_=>False
  |_,_=>False
 |_,_,_=>False
section
variable{P:Program} {T:eK} {n:Nat} {G0:Nat->Nat} {F0:la} {n0:Nat} {w0:World} {fr:Fr} {H:dV} {a:Act} {w:World}
theorem RU(h:(jH P e).isSome=true){z:Value}(hi:P.info? e=some i)(a:i.zero=some z):∀u∈z.cells.toList,u.oneCell'=true:=by grind[jH,MF,zeroOf,Cj,ofValue,fG]
def om(w:World)(q:oA P t=some (e,sz))(r:(jH P e).isSome=true)(ty:TypeId)(base:Option Addr)(a d:Nat)(f:List Value)(holds:f.length=a*sz)
  (F:base=none->a=0/\d=0) (G:∀l,base=some l->∀j v,f[j]?=some v->w.cell? (l.add j)=some v)
  (l:Addr) (m c:Nat) (news:List Value) (C:news.length=m*sz) (hn:∀j v,news[j]?=some v->w.cell? (l.add j)=some v) (n:d<a+m) (o:a+m<=kG):∃cap rest,a+m<=cap/\cap<=maxLen/\rest.length=(cap-(a+m))*sz/\(∀u∈rest,u.oneCell'=true)/\(Builtin.append_ #[t,t] ty #[.slice base a d,.slice (some l) m c]).run P w=.ok (.slice (some ⟨w.heap.size,0,none⟩) (a+m) cap) (w.drew.alloc (.cells (f++news++rest).toArray e)):=by
 obtain⟨i,z,hu,hi,s,x,y,A,D⟩:=nC q;subst y;have k:a+m<=549755813888:=o
 have h:(a+m)*i.bytes<=140737488355328:=by
  have:=Oa k A;omega
 have EH:a+m<=maxLen:=by simp only[maxLen];omega
 have B:=grownCap_ge w (a+m) d e;have hle:=grownCap_le_maxLen w (a+m) d e EH;refine⟨grownCap w (a+m) d e,(Builtin.zeroCells z.cells (grownCap w (a+m) d e-(a+m))).toList,B,hle,?_,xE (RU r hi s) VW _,?_⟩
 .simp only[agM,size_zeroCells,x]
 .have H:(f++news++(Builtin.zeroCells z.cells (grownCap w (a+m) d e-(a+m))).toList).toArray=f.toArray++news.toArray++Builtin.zeroCells z.cells (grownCap w (a+m) d e-(a+m)):=by
   apply F2.1;simp
  rw[H];cases base with
  |some b=>
   exact run_append_grow w t ty e i z hu hi s b a d f holds (G b rfl) l m c news C hn n VW (growslice_fits n h)
  |none=>
   obtain⟨rfl,rfl⟩:=F rfl;have:f=[]:=Cd (by simpa using holds);subst this;simp only[vo] at n h k|-;have:=run_append_nil (P:=P) w t ty e i z hu hi s l m c news C hn VW VW VW;simpa using this
def JI:∀{rest:List Value} {k:Nat},rest.length=k->(∀u∈rest,u.oneCell'=true)->hS (j5 F ρ) (yZ k) rest
 |[],k,h,_=>by cases h;exact .nil
 |u::rest,k,h,a=>by
  cases h;exact .cons (.p (.undef (a u abm))) (JI rfl λv b=>a v (by simp[b]))
def xX(k:Nat):∀c∈yZ k,c.gO=true:=by
 intro c a;rw[List.eq_of_mem_replicate a];rfl
def WR.aat(h:WR T n w0.heap.size ρ F R fr H a w)(s:Ext w0.heap.size G0 F0 n0 w0 ρ.G F H.length w){d len cap:Nat}(l:d<n){cells:List AV}(ty:TypeId)
  (o:hS (j5 F ρ) cells vs.toList) (i:∀c∈cells,c.gO=true) (hlen:len<=cap) (BT:cap<=maxLen):SR T n G0 F0 n0 w0 (zb fr d cells len cap) H (a.put (some d) (.slice (some ⟨w.heap.size,0,none⟩) len cap)) (w.drew.alloc (.cells vs ty)):=by
 have t:=h.drew.alloc (.cells vs ty);have k:(w.drew.alloc (.cells vs ty)).heap[w.drew.heap.size]?=some (.cells vs ty (0,0)):=heap_alloc_new w.drew _;have u:w.drew.heap.size=w.heap.size:=rfl;have f:R w.drew.heap.size=.free:=h.lZ _ (gY _);have hF:∀j,F w.drew.heap.size j=none:=λj=>h.g.fresh _ j (gY _);obtain⟨ρ',y,hG,hw⟩:=t.afP h.q8 f hF k o i l;have A:=hw.box d cells (by simp[gN])
 have B:ρ'.L d (fr.gen d+1)=w.heap.size:=by
  have he:=hw.env d
  have q:({fr with env:=gN fr.env d (.h9 d (fr.gen d+1) 0),box:=gN fr.box d (some cells),gen:=gN fr.gen d (fr.gen d+1)}:Fr).env d=.h9 d (fr.gen d+1) 0:=by simp[gN]
  rw[q,Qg a (some d) _ d (by intro C he;injection he with he;subst he;rw[h.size];exact l),dO rfl] at he;have:=(vD he).1;injection this with this;injection this with this;injection this with this;exact this.symm
 have r:fr.gen d+1<=ρ'.lg d:=by
  rw[hw.lg d];simp[gN]
 have kB:=hw.put (d:=some d) (by intro C he;injection he with he;subst he;exact l) (x:=.xQ d (fr.gen d+1) len cap) (v:=.slice (some ⟨w.heap.size,0,none⟩) len cap) (by
  have:=j5.xQ (F:=F) (ρ:=ρ') (b:=d) (g:=fr.gen d+1) r hlen BT;rw[B] at this
  exact .cell this)
 refine⟨ρ',F,y,?_,?_⟩
 .have q:(({fr with env:=gN fr.env d (.h9 d (fr.gen d+1) 0),box:=gN fr.box d (some cells),gen:=gN fr.gen d (fr.gen d+1)}:Fr).put (some d) (.xQ d (fr.gen d+1) len cap))=zb fr d cells len cap:=by
   simp only[zb,Fr.put,N1]
  have D:(a.put (some d) (.pointer (some ⟨w.heap.size,0,none⟩))).put (some d) (.slice (some ⟨w.heap.size,0,none⟩) len cap)=a.put (some d) (.slice (some ⟨w.heap.size,0,none⟩) len cap):=by
   simp[Act.put]
  rw[q,D] at kB;exact kB
 .rw[hG];exact(s.drew).alloc h.q8 _
def LY(h:WR T n w0.heap.size ρ F R fr H a w)(hx:Ext w0.heap.size G0 F0 n0 w0 ρ.G F H.length w)
  (y:D9 P T c dst K fr H) (hd:∀d,dst=some d->d<n) (ar:∀x∈c.args.toList,jw x=true):∃v w' fr' H',(Builtin.append_ c.argTypes ty (c.args.map a.eval)).run P w=.ok v w'/\K fr' H'/\SR T n G0 F0 n0 w0 fr' H' (a.put dst v) w':=by
 unfold D9 at y
 split at y
 .rename_i d s x t t' A aw;have W:=hd d rfl;have e1:c.argTypes=#[t,t']:=F2.1 (by rw[aw]);have e2:c.args.map a.eval=#[a.eval s,a.eval x]:=F2.1 (by rw[PK,A];rfl);rw[e1,e2];have S:=gG h.env h.iu s (ar s (by rw[A];simp));have ax:=gG h.env h.iu x (ar x (by rw[A];simp))
  split at y
  .rename_i e sz aT m X aF;obtain⟨rfl,aG,ay,Y,y⟩:=y;rw[aF] at ax;obtain⟨aH,D,b2,o2,aX,k,aI,f,_,_⟩:=n7 ax;have hm:m≠[]:=Xy.1 Y;have az:=rU aG f.sz;have U:=f.base hm
   have B:∀j v,k[j]?=some v->w.cell? ((⟨b2,o2,none⟩:Addr).add j)=some v:=by
    intro j v Q;rw[Addr.add_lit];exact h.g.GL b2 _ v (f.has j v Q)
   have I:k.length=m.length*sz:=by rw[<-f.cells.length,oL az]
   have J:hS (j5 F ρ) (m.flatMap AV.cells) k:=f.cells.rV.mono λ_ _ _ h=>.p h;have Z:∀u∈k,u.oneCell'=true:=jS J f.s7;obtain⟨i,z,hu,hi,hz,aY,ae,aZ,aU⟩:=nC X;rw[aI,U]
   split at y
   .--a new row
    rename_i l hs;obtain⟨aJ,M,y⟩:=y;rw[hs] at S;obtain⟨base,cap,b,o,a1,vs,af,C,ah,_⟩:=n7 S;rw[af];have BT:cap=l.length:=ah rfl;have aA:=rU aJ C.sz
    have V:vs.length=l.length*sz:=by rw[<-C.cells.length,oL aA]
    have aK:base=none->l.length=0/\cap=0:=by
     rintro rfl
     have aL:l=[]:=by
      rcases agw l with h'|⟨_,_,h'⟩
      .exact h'
      .have:=C.base (by rw[h'];simp);cases this
     subst aL;exact⟨rfl,BT⟩
    have ho:∀ad,base=some ad->∀j v,vs[j]?=some v->w.cell? (ad.add j)=some v:=by
     intro ad ai j v Q
     have aB:l≠[]:=by
      rintro rfl;have:vs=[]:=Cd (by simpa using V);rw[this] at Q;simp at Q
     have:=C.base aB;rw[ai] at this;obtain rfl:=hU this;rw[Addr.add_lit];exact h.g.GL b _ v (C.has j v Q)
    obtain⟨N,rest,O,ak,an,ao,q⟩:=om w X ay ty base l.length cap vs V aK ho ⟨b2,o2,none⟩ m.length D k I B VW M;refine⟨_,_,_,_,q,y N O,h.aat hx W e ?_ ?_ O ak⟩
    .simp only;exact((C.cells.rV.mono λ_ _ _ h=>j5.p h).append J).append (JI an ao)
    .intro c hc;simp only[tl] at hc;rcases hc with(hc|hc)|hc
     .exact C.s7 c hc
     .exact f.s7 c hc
     .exact xX _ c hc
   .--a row of a6 aC own
    rename_i b g len cap hs;obtain⟨hg,M,y⟩:=y;rw[hs] at S;obtain⟨af,aM,aN,aO⟩:=AA S;rw[af]
    split at y
    .rename_i cs hb;obtain⟨aP,aQ,aR⟩:=y;obtain⟨b1,aS,b3,cur,Pn,b4,b5⟩:=h.box b cs hb;rw[<-hg] at b1 aS b4
     have aV:cur.size=cap*sz:=by rw[<-aP];simpa using b5.length.symm
     have hle:len*sz<=cap*sz:=Ki _ aN
     by_cases r:len+m.length<=cap
     .have aW:len*sz+m.length*sz<=cap*sz:=by rw[<-Ce];exact Ki _ r
      have q:=yB (P:=P) w t' ty e Pn i hu hi (ρ.L b g) len cap cur b4 ⟨b2,o2,none⟩ m.length D k (by rw[ae];exact I) B Z r (by rw[ae];omega);rw[ae] at q;have gk:=b5.setCells J (len*sz);have aD:(m.flatMap AV.cells).length=k.length:=J.length
      have aq:∀c∈setCells cs (len*sz) (m.flatMap AV.cells),c.gO=true:=by
       intro c hc;simp only[setCells,tl] at hc;rcases hc with(hm|hm)|hm
       .exact b3 c (C' hm)
       .exact f.s7 c hm
       .exact b3 c (Hp hm)
      have aE:=h.Zp hb (vs':=(cur.toList.take (len*sz)++k++cur.toList.drop (len*sz+k.length)).toArray) (by rw[<-aD];simpa[aD] using gk) aq;rw[<-hg] at aE;have kB:=aE.put (d:=some d) (by intro d' he;injection he with he;subst he;exact W) (x:=.xQ b g (len+m.length) cap) (v:=.slice (some ⟨ρ.L b g,0,none⟩) (len+m.length) cap) (.cell (.xQ aM r aO));refine⟨_,_,_,_,q,aQ r,ρ,F,R,kB,hx.setRow (.inl b1) _⟩
     .have ho:∀ad,some (⟨ρ.L b g,0,none⟩:Addr)=some ad->∀j v,(cur.toList.take (len*sz))[j]?=some v->w.cell? (ad.add j)=some v:=by
       intro ad ai j v Q;obtain rfl:=hU ai;rw[Addr.add_lit,vo,cell_of_row w _ _ cur Pn (0,0) b4];rw[TC] at Q
       split at Q
       .simpa using Q
       .cases Q
      obtain⟨N,rest,O,ak,an,ao,q⟩:=om w X ay ty (some ⟨ρ.L b g,0,none⟩) len cap (cur.toList.take (len*sz)) abv (by intro h;cases h) ho ⟨b2,o2,none⟩ m.length D k I B VW M;refine⟨_,_,_,_,q,aR N VW O,h.aat hx W e ?_ ?_ O ak⟩
      .simp only;exact((b5.take _).append J).append (JI an ao)
      .intro c hc;simp only[tl] at hc;rcases hc with(hc|hc)|hc
       .exact b3 c (C' hc)
       .exact f.s7 c hc
       .exact xX _ c hc
    .exact y.elim
   .exact y.elim
  .exact y.elim
 .exact y.elim
end
end Go.lD
namespace Go.lD
open Go Go.MapKept
variable{F F0:la}{G G0:Nat->Nat}{K:Fr->dV->Prop}{Y i k v:Value}{c:Obj}{d:TypeDesc}{dst:Option Nat}{e:MapEntry}{es:Array MapEntry}{j n n0 o:Nat}{ks:List Value}{l:List AV}{pv:List (Nat×Value)}{r x:AV}{t:TypeId}{tag:Tag}{w0:World}{α:Type}
def JN:TypeDesc->Value->Bool
 |.bool,.bool _=>true|.int k,.int k' _=>k'==k|.string,.string _=>true|_,_=>false
def Zq:Value->Value->Bool
 |.bool a,.bool b=>a==b|.int _ a,.int _ b=>a==b|.string a,.string b=>a==b|_,_=>false
theorem wJ(h:JN d v=true):IsKey d v:=by
 unfold JN at h
 split at h<;>simp_all [IsKey]
theorem Ge{a b:Value}(c:IsKey d a)(f:IsKey d b):Zq a b=true↔a=b:=by
 cases d<;>cases a<;>cases b<;>simp_all [IsKey,Zq,bytes_beq]
def mapIdx(ks:List Value)(k:Value):Option Nat:=ks.findIdx? (λx=>Zq x k)
def A4(f:IsKey d k):∀{ks:List Value} {j:Nat},(∀x∈ks,IsKey d x)->ks.Nodup->ks[j]?=some k->mapIdx ks k=some j
 |[],j,_,_,h=>by simp at h
 |x::ks,j,a,hn,h=>by
  have b:=a x abm;unfold mapIdx;rw[agu];cases j with
  |zero=>
   simp at h;subst h;rw[dO ((Ge b b).2 rfl)]
  |succ j=>
   simp at h
   have c:x≠k:=by
    rintro rfl;exact(ZJ.1 hn).1 (HP h)
   rw[dK (λe=>c ((Ge b f).1 e))];have:=A4 f (λy hy=>a y (by simp[hy])) (ZJ.1 hn).2 h;unfold mapIdx at this;rw[this];rfl
def Aq(b:IsKey d k):∀{ks:List Value},(∀x∈ks,IsKey d x)->(∀x∈ks,x≠k)->mapIdx ks k=none
 |[],_,_=>rfl|x::ks,a,h=>by
  unfold mapIdx;rw[agu,dK (λe=>h x abm ((Ge (a x abm) b).1 e))];have:=Aq b (ks:=ks) (λy hy=>a y (by simp[hy])) (λy hy=>h y (by simp[hy]))
  grind[mapIdx]
def Q4(P:Program)(t:TypeId):Option AV:=
 match zeroOf P t with
 |some z=>if zr z=true/\fG (ofValue z) then some (ofValue z).norm else none|none=>none
def ve(P:Program)(H:dV)(t:TypeId)(x i:AV)(ok:Bool):Option AV:=
 match P.underlying t,x,i with
 |some (.map kt e),.n_ o,.sc k=>
  match P.underlying kt,H[o]?,Q4 P e with
  |some d,some [.uv ks xs],some z=>
   if JN d k=true/\ks.all (JN d) then
    match mapIdx ks k with
    |some j=>(xs[j]?).map λv=>if ok then .tuple [v,.sc (.bool true)] else v|none=>some (if ok then .tuple [z,.sc (.bool false)] else z)
   else none
  |_,_,_=>none
 |_,_,_=>none
def FC(ks:List Value)(xs:List AV)(k:Value)(v:AV):AV:=
 match mapIdx ks k with
 |some j=>.uv ks (xs.set j v)|none=>.uv (ks++[k]) (xs++[v])
def sG(P:Program)(t:TypeId)(x i v:AV)(K:Fr->dV->Prop)(fr:Fr)(H:dV):Prop:=
 match P.underlying t,x,i with
 |some (.map kt _),.n_ o,.sc k=>
  match P.underlying kt,H[o]?with
  |some d,some [.uv ks xs]=>JN d k=true/\ks.all (JN d)=true/\K fr (H.set o [FC ks xs k v.norm])|_,_=>False
 |_,_,_=>False
def I'(dst:Option Nat)(K:Fr->dV->Prop)(fr:Fr)(H:dV):Prop:=K (fr.put dst (.n_ H.length)) (H++[[.uv [] []]])
def JK(P:Program)(t:TypeId)(x:AV)(dst:Option Nat)(K:Fr->dV->Prop)(fr:Fr)(H:dV):Prop:=
 match P.underlying t,x with
 |some (.map _ _),.n_ o=>
  match H[o]?with
  |some [.uv ks _]=>K (fr.put dst (.fg H.length 0)) (H++[[.mV o ks.length []]])|_=>False
 |_,_=>False
def Mz(x:AV)(dst:Option Nat)(K:Fr->dV->Prop)(fr:Fr)(H:dV):Prop:=
 match x with
 |.fg i 0=>
  match H[i]?with
  |some [.mV o since seen]=>
   match H[o]?with
   |some [.uv ks xs]=>ks.length=since/\ks.all yP=true/\((∀j,j<ks.length->j∈seen)->K (fr.put dst (.tuple [.sc (.bool false)])) H)/\∀j k v,ks[j]?=some k->xs[j]?=some v->j∉seen->K (fr.put dst (.tuple [.sc (.bool true),.sc k,v])) (H.set i [.mV o since (seen++[j])])|_=>False
  |_=>False
 |_=>False
def Fb(x:AV)(H:dV):Option AV:=
 match x with
 |.fg i 0=>
  match H[i]?with
  |some [.mV o since seen]=>
   match H[o]?,seen.getLast? with
   |some [.uv ks xs],some j=>
    match ks[j]?,xs[j]?with
    |some k,some v=>if ks.length=since/\yP k then some (.tuple [.sc k,v])else none|_,_=>none
   |_,_=>none
  |_=>none
 |_=>none
theorem lV.DM{ks xs a}(h:lV F G n [.uv ks xs] a):∃es clock,a=.map es clock/\es.toList.map (·.key)=ks/\hS (gT F G n) xs (es.toList.map (·.val))/\es.toList.map (·.born)=List.range ks.length/\clock=ks.length/\ks.Nodup:=by
 cases h with
 |cells d c b=>have:=b (.uv ks xs) abm;simp[AV.gO] at this
 |map c b f i j=>grind
theorem lV.RG{o since seen a}(h:lV F G n [.mV o since seen] a):a=.mapIter (some (G o)) since seen.toArray since/\o<n:=by
 cases h with
 |cells c d b=>have:=b (.mV o since seen) abm;simp[AV.gO] at this
 |iter h=>grind
section
variable{P:Program} {T:eK} {n B0:Nat} {ρ:Maps} {F:la} {R:Nat->oY} {fr:Fr} {H:dV} {a:Act} {w:World}
def FY(h:gI F ρ (.n_ o) v):v=.map (some (ρ.G o))/\o<ρ.n:=by
 cases h with
 |cell h=>cases h with
  |p h=>cases h with|n_ h=>exact⟨rfl,h⟩
theorem Yk(w:World){z:AV}(h:Q4 P t=some z):∃v,(zeroValue t).run P w=.ok v w/\gT F ρ.G ρ.n z v:=by
 unfold Q4 at h
 split at h
 .rename_i z0 a
  split at h
  .rename_i b;injection h with h;subst h;refine⟨z0,?_,(gI.p (zz _ _ _ _ b.1)).norm⟩;unfold zeroOf at a;cases hi:P.info? t with
   |none=>grind|some i=>
    rw[hi] at a;simp at a;simp[zeroValue,typeInfo,hi,a]
  .cases h
 .cases h
theorem Vs(h:es.toList.map (·.key)=ks)(a:ks.all (JN d)=true):∀x∈es.toList,IsKey d x.key:=by grind[wJ]
theorem H9(h:es.toList.map (·.key)=ks)(a:es.toList[j]?=some e):ks[j]?=some e.key:=by grind
def PU(h:WR T n B0 ρ F R fr H a w){i:AV}{ok:Bool}{O Q:Value}(c:ve P H t x i ok=some r)(I:gI F ρ x O)(hi:gI F ρ i Q):∃v,(Instr.lookup t O Q ok).run P w=.ok v w/\gI F ρ r v:=by
 unfold ve at c
 split at c
 .rename_i kt e o k hu
  split at c
  .rename_i d ks xs z D V W
   split at c
   .rename_i J;obtain⟨rfl,_⟩:=FY I;obtain rfl:=gr hi;obtain⟨ob,S,X⟩:=h.g.ma o _ V;obtain⟨es,clock,rfl,K,U,e3,e4,Y⟩:=X.DM;rw[<-h.hn] at U;have b:=wJ J.1;have q:=Vs K J.2;have s:∀y∈ks,IsKey d y:=λy hy=>wJ (kZ.1 J.2 _ hy);obtain⟨L,M,u⟩:=Yk (F:=F) (ρ:=ρ) w W;rcases findNow_spec b es.toList 0 q with⟨f,l⟩|⟨j,G,f,l,N⟩
    .rw[Aq b s (by
      intro y hy;rw[<-K] at hy;obtain⟨x,I,rfl⟩:=ql.1 hy
      exact l x I)] at c
     simp only[w5] at c;subst c;refine⟨if ok then .tuple #[L,.bool false] else L,?_,?_⟩
     .cases ok<;>simp[Instr.lookup,run_underlying hu,MapKept.run_getObj_map S,run_checkKey D b,run_findKey D f,M,Result.andThen]
     .cases ok
      .exact .p u
      .exact .p (.tuple (vs:=[L,.bool false]) (.cons u (.cons (.sc rfl) .nil)))
    .have A:=H9 K l;rw[N] at A;rw[A4 b s Y A] at c;simp only[adV] at c;obtain⟨y,hy,rfl⟩:=c;obtain⟨Z,B,C⟩:=U.get hy
     have:Z=G.val:=by
      rw[y',l] at B;simpa using B.symm
     subst this;simp only[vo] at f;refine⟨if ok then .tuple #[G.val,.bool true] else G.val,?_,?_⟩
     .cases ok<;>simp[Instr.lookup,run_underlying hu,MapKept.run_getObj_map S,run_checkKey D b,run_findKey D f,Result.andThen]
     .cases ok
      .exact .p C
      .exact .p (.tuple (vs:=[G.val,.bool true]) (.cons C (.cons (.sc rfl) .nil)))
   .cases c
  .cases c
 .cases c
def hS.amK{β:Type}{R:α->β->Prop}{as:List α}{bs:List β}(h:hS R as bs){a:α}{b:β}(c:R a b)(j:Nat):hS R (as.set j a) (bs.set j b):=by
 induction h generalizing j with
 |nil=>simp;exact .nil|cons d f ih=>cases j with
  |zero=>exact .cons c f|succ j=>exact .cons d (ih j)
theorem CP(f:MapEntry->MapEntry)(g:MapEntry->α)(es:Array MapEntry)(j:Nat)(a:es.toList[j]?=some e):(es.modify j f).toList.map g=(es.toList.map g).set j (g (f e)):=by
 apply YU
 grind
theorem Qy{l:List α}{x:α}(h:l[j]?=some x):l.set j x=l:=by
 apply YU
 grind
theorem DO(h:WR T n w0.heap.size ρ F R fr H a w)(Q:Ext w0.heap.size G0 F0 n0 w0 ρ.G F H.length w){i v:AV}{xv A B:Value}
  (k:sG P t x i v K fr H) (S:gI F ρ x xv) (U:gI F ρ i A) (D:gI F ρ v B):∃fr' H' w',(Instr.mapUpdate t xv A B).run P w=.ok () w'/\K fr' H'/\SR T n G0 F0 n0 w0 fr' H' a w':=by
 unfold sG at k
 split at k
 .rename_i kt e o kk hu
  split at k
  .rename_i d ks xs O V;obtain⟨W,I,k⟩:=k;obtain⟨rfl,_⟩:=FY S;obtain rfl:=gr U;obtain⟨ob,J,h2⟩:=h.g.ma o _ V;obtain⟨es,clock,rfl,C,X,e3,Y,e5⟩:=h2.DM;have c:=wJ W;have r:=Vs C I;have L:∀y∈ks,IsKey d y:=λy hy=>wJ (kZ.1 I _ hy)
   have hlen:es.toList.length=ks.length:=by rw[<-C];simp
   rw[<-h.hn] at X
   have fin:∀(l:Obj) (s:List AV),lV F ρ.G ρ.n s l->K fr (H.set o s)->(Instr.mapUpdate t (.map (some (ρ.G o))) A B).run P w=.ok () {w with heap:=w.heap.setIfInBounds (ρ.G o) l}->∃fr' H' w',(Instr.mapUpdate t (.map (some (ρ.G o))) A B).run P w=.ok () w'/\K fr' H'/\SR T n G0 F0 n0 w0 fr' H' a w':=by
    intro l s Z k M;obtain⟨s1,s2⟩:=heap_set (o':=l) J;refine⟨_,_,_,M,k,ρ,F,R,h.Iw V abm abm s1 s2 Z,?_⟩;rw[YG];refine Q.Rn rfl rfl rfl abm λb hb hn=>s2 b ?_;rintro rfl;exact hn o (ru.1 V).1 rfl
   rcases findNow_spec c es.toList 0 r with⟨q,f⟩|⟨j,e0,q,f,N⟩
   .rw[FC,Aq c L (by
     intro y hy;rw[<-C] at hy;obtain⟨x,Q,rfl⟩:=ql.1 hy
     exact f x Q)] at k
    refine fin (.map (es.push {key:=A,val:=B,born:=clock}) (clock+1)) _ (.map ?_ ?_ ?_ ?_ ?_) k ?_
    .simp[C]
    .simpa using X.append (.cons D.norm .nil)
    .simp[e3,Y,List.range_succ]
    .simp[Y]
    .grind
    .simp[Instr.mapUpdate,run_underlying hu,MapKept.run_getObj_map J,run_checkKey O c,run_findKey O q,run_setObj_map _ J,Result.andThen]
   .have u:=H9 C f;rw[N] at u;rw[FC,A4 c L e5 u] at k
    have hj:es[j]?=some e0:=by simpa using f
    simp only[vo] at q;refine fin (.map (es.modify j λe=>{e with key:=A,val:=B}) clock) _ (.map ?_ ?_ ?_ Y e5) k ?_
    .rw[CP _ _ _ _ f,C,Qy u]
    .rw[CP _ _ _ _ f];exact X.amK D.norm j
    .rw[CP _ _ _ _ f,Qy (by rw[y',f];rfl),e3]
    .simp[Instr.mapUpdate,run_underlying hu,MapKept.run_getObj_map J,run_checkKey O c,run_findKey O q,hj,N,run_keyThatStays c,run_setObj_map _ J,Result.andThen]
  .exact k.elim
 .exact k.elim
def sZ(h:WR T n w0.heap.size ρ F R fr H a w)(k:Ext w0.heap.size G0 F0 n0 w0 ρ.G F H.length w){cs:List AV}(f:lV F ρ.G ρ.n cs c)
   (l:∀d,dst=some d->d<n) (q:∀ρ':Maps,(∀o,o<H.length->ρ'.G o=ρ.G o)->ρ'.G H.length=w.heap.size->ρ'.n=H.length+1->gT F ρ'.G ρ'.n x v):SR T n G0 F0 n0 w0 (fr.put dst x) (H++[cs]) (a.put dst v) (w.alloc c):=by
 obtain⟨ρ',r,hG,b,i,hw⟩:=(h.alloc c).N6 (h.lZ _ (gY _)) (λj=>h.g.fresh _ j (gY _)) (heap_alloc_new w _) f;refine⟨ρ',F,r,hw.put l (.p (q ρ' hG b i)),?_⟩;rw[oV];exact(k.alloc h.q8 _).af6 hG (by rw[b];exact h.q8)
theorem DF(h:WR T n w0.heap.size ρ F R fr H a w)(j:Ext w0.heap.size G0 F0 n0 w0 ρ.G F H.length w){t k:Nat}{parts:List (Nat×AV)}
   (q:nE P t k parts=some (.slice tag l)) (c:hS (λ(x:Nat×AV) (y:Nat×Value)=>x.1=y.1/\gI F ρ x.2 y.2) parts pv) (r:∀d,dst=some d->d<n):∃v w',(Instr.buildSlice t k pv.toArray).run P w=.ok v w'/\SR T n G0 F0 n0 w0 (fr.put dst (.zF H.length 0 l.length l.length)) (H++[l.flatMap AV.cells]) (a.put dst v) w':=by
 obtain⟨B,us,e,sz,he,C,EH,s,b,f,i⟩:=A8 w q c;injection he with _ he;subst he;refine⟨_,_,i,sZ h j (.cells (.inl rfl) (by simpa using b) f) r ?_⟩;intro ρ' hG u A;have:=gT.zF (F:=F) (G:=ρ'.G) (n:=ρ'.n) (o:=H.length) (off:=0) (len:=l.length) (cap:=l.length) (by grind)
 grind
theorem L2(h:WR T n w0.heap.size ρ F R fr H a w)(b:Ext w0.heap.size G0 F0 n0 w0 ρ.G F H.length w)(c:∀d,dst=some d->d<n):∃v w',(Instr.makeMap t none).run P w=.ok v w'/\SR T n G0 F0 n0 w0 (fr.put dst (.n_ H.length)) (H++[[.uv [] []]]) (a.put dst v) w':=by
 refine⟨.map (some w.heap.size),w.alloc (.map #[] 0),by simp[Instr.makeMap],sZ h b (.map abm (by simp;exact .nil) abm rfl abm) c ?_⟩;intro ρ' hG f i;have:=gT.n_ (F:=F) (G:=ρ'.G) (n:=ρ'.n) (o:=H.length) (by grind)
 grind
theorem PF(h:WR T n w0.heap.size ρ F R fr H a w)(j:Ext w0.heap.size G0 F0 n0 w0 ρ.G F H.length w)
  (b:JK P t x dst K fr H) (k:∀d,dst=some d->d<n) (c:gI F ρ x i):∃v w' fr' H',(Instr.range t i).run P w=.ok v w'/\K fr' H'/\SR T n G0 F0 n0 w0 fr' H' (a.put dst v) w':=by
 unfold JK at b
 split at b
 .rename_i kt e o hu
  split at b
  .rename_i ks xs l;obtain⟨rfl,f⟩:=FY c;obtain⟨A,q,r⟩:=h.g.ma o _ l;obtain⟨es,clock,rfl,B,C,D,s,I⟩:=r.DM;subst s;refine⟨_,_,_,_,run_range_map w t kt e (ρ.G o) es ks.length hu q,b,sZ h j (.iter (seen:=[]) f) k ?_⟩;intro ρ' hG u y;have:=gT.fg (F:=F) (G:=ρ'.G) (n:=ρ'.n) (o:=H.length) (off:=0) (by grind)
   grind
  .exact b.elim
 .exact b.elim
theorem Pw{k:Nat}(h:es.toList.map (·.born)=List.range k)(he:e∈es.toList):e.born<k/\es.toList[e.born]?=some e:=by
 obtain⟨j,a⟩:=adq.1 he
 have b:(es.toList.map (·.born))[j]?=some e.born:=by grind
 grind
theorem KK(w:World){it m since:Nat}{seen:Array Nat}(ty:TypeId)(hit:w.heap[it]?=some (.mapIter (some m) since seen since))(hm:w.heap[m]?=some (.map es since))(r:es.toList.map (·.born)=List.range since):((∀e∈es.toList,e.born∈seen)/\(Instr.next (.pointer (some ⟨it,0,none⟩)) false ty).run P w=.ok (.tuple #[.bool false]) w)\/∃e∈es.toList,e.born∉seen/\∃a,(a=w\/a=w.drew)/\(Instr.next (.pointer (some ⟨it,0,none⟩)) false ty).run P w=.ok (.tuple #[.bool true,e.key,e.val]) {a with heap:=a.heap.setIfInBounds it (.mapIter (some m) since (seen.push e.born) since)}:=by
 have hold:∀x∈es.toList,x.born<since:=λx c=>(Pw r c).1;simp only[Instr.next,getObj,h8,Sem.run,hit,hm,Result.andThen,next_test_false seen es since since hold (gY _),pA,jt]
 have k:∀x,x∈(Array.filter (λe=>!seen.contains e.born) es).toList↔x∈es.toList/\x.born∉seen:=by
  intro x;simp
 generalize Array.filter (λe=>!seen.contains e.born) es=L at k|-;have b:∀x∈L.toList,x.born<since:=λx c=>hold x ((k x).1 c).1;have s:L.filter (λx=>decide (x.born<since))=L:=Array.filter_eq_self.2 (λx c=>by simpa using b x (by simpa using c))
 have t:L.filter (λx=>decide (x.born>=since))=#[]:=by
  rw[Array.filter_eq_empty_iff];intro x c;have:=b x (by simpa using c);simp;omega
 simp only[s,t,Array.append_empty]
 by_cases o:L.size=0
 .left;have:L=#[]:=ahu o;subst this;refine⟨?_,?_⟩
  . grind
  . simp[choose,Sem.run,Question.forced]
 .right
  have l:L.isEmpty=false:=by simp[Array.isEmpty,o]
  simp only[l,pA,jt,Array.empty_append,Array.size_map]
  have n:∃(j:Nat) (a:World),j<L.size/\(a=w\/a=w.drew)/\(choose (Question.mapNext L.size)).run P w=.ok j a:=by
    by_cases q:L.size<=1
    .exact⟨0,w,VW,.inl rfl,by simp[choose,Sem.run,Question.forced,q]⟩
    .exact⟨_,w.drew,acE _ VW,.inr rfl,by
      simp only[choose,Sem.run,Question.forced,oU,q,jt,Question.cut]
      rfl⟩
  obtain⟨j,a,u,d,f⟩:=n;have h:=(k L[j]).1 abm;refine⟨L[j],h.1,h.2,a,d,?_⟩
  have i:a.heap[it]?=some (.mapIter (some m) since seen since):=by
    rcases d with rfl|rfl
    .exact hit
    .exact hit
  have gk:∀(o':Obj),(setObj it o').run P a=.ok () {a with heap:=a.heap.setIfInBounds it o'}:=λo'=>by
    simp only[setObj,Sem.run,i]
  simp only[f,Array.getElem?_map,aj_ u,ac5,h8,gk,Result.andThen];rfl
def Sw(h:WR T n B0 ρ F R fr H a w){G:Value}(b:Fb x H=some r)(u:gI F ρ x G):∃v,(Instr.entry G).run P w=.ok v w/\gI F ρ r v:=by
 unfold Fb at b
 split at b
 .rename_i i
  split at b
  .rename_i o since seen hi
   split at b
   .rename_i ks xs j M N
    split at b
    .rename_i k v I O
     split at b
     .rename_i Q;obtain⟨hlen,y⟩:=Q;injection b with b;subst b;obtain⟨rfl,S⟩:=vF u;obtain⟨ob,g1,g2⟩:=h.g.ma i _ hi;obtain⟨rfl,U⟩:=g2.RG;obtain⟨V,W,X⟩:=h.g.ma o _ M;obtain⟨es,clock,rfl,J,K,A,L,e5⟩:=X.DM;rw[hlen] at A L;subst L;rw[<-h.hn] at K;obtain⟨Y,f,B⟩:=K.get O
      have C:j<clock:=by rw[<-hlen];exact(ru.1 I).1
      have l:j<es.toList.length:=by
       have:(es.toList.map (·.key)).length=ks.length:=by rw[J]
       simp only[Hn] at this;omega
      have c:es.toList[j]?=some es.toList[j]:=pE l
      have Z:es.toList[j].born=j:=by
       have q:(es.toList.map (·.born))[j]?=some es.toList[j].born:=by rw[y',c];rfl
       rw[A,aj0 C] at q;exact(hU q).symm
      have s:es.toList[j].key=k:=by
       have q:=H9 J c;rw[I] at q;exact(hU q).symm
      have t:es.toList[j].val=Y:=by
       rw[y',c] at f;exact hU f
      have hf:es.find? (·.born==j)=some es.toList[j]:=by
       rw[<-Array.find?_toList]
       have D:(es.toList.map (·.born)).Nodup:=by rw[A];exact List.nodup_range
       have:=find_born es.toList[j] es.toList D (Ek l);rw[Z] at this;exact this
      have d:seen.toArray.back?=some j:=by
       rw[<-N];simp
      refine⟨.tuple #[es.toList[j].key,es.toList[j].val],?_,.p (.tuple (vs:=[es.toList[j].key,es.toList[j].val]) (.cons (by rw[s];exact .sc y) (.cons (by rw[t];exact B) .nil)))⟩;simp only[Instr.entry,getObj,h8,Sem.run,g1,W,Result.andThen,d,bne_self_eq_false,pA,jt,hf];rfl
     .cases b
    .cases b
   .cases b
  .cases b
 .cases b
def SV(h:WR T n w0.heap.size ρ F R fr H a w)(A:Ext w0.heap.size G0 F0 n0 w0 ρ.G F H.length w)(ty:TypeId)
  (f:Mz x dst K fr H) (Z:∀d,dst=some d->d<n) (B:gI F ρ x Y):∃v w' fr' H',(Instr.next Y false ty).run P w=.ok v w'/\K fr' H'/\SR T n G0 F0 n0 w0 fr' H' (a.put dst v) w':=by
 unfold Mz at f
 split at f
 .rename_i i
  split at f
  .rename_i o since seen hi
   split at f
   .rename_i ks xs ho;obtain⟨hlen,C,D,I⟩:=f;obtain⟨rfl,ad⟩:=vF B;obtain⟨ob,g1,g2⟩:=h.g.ma i _ hi;obtain⟨rfl,J⟩:=g2.RG;obtain⟨ae,h1,h2⟩:=h.g.ma o _ ho;obtain⟨es,clock,rfl,e1,L,y,e4,e5⟩:=h2.DM;rw[hlen] at y e4;subst e4;rw[<-h.hn] at L
    have af:es.toList.length=ks.length:=by rw[<-e1];simp
    rcases KK (P:=P) w ty g1 h1 y with⟨l,c⟩|⟨e,he,M,N,k,c⟩
    .refine⟨_,_,_,_,c,D ?_,ρ,F,R,h.put Z (.p (.tuple (vs:=[.bool false]) (.cons (.sc rfl) .nil))),A⟩;intro j hj
     have q:j<es.toList.length:=VW
     have hm:=l es.toList[j] (Ek q)
     have O:(es.toList.map (·.born))[j]?=some es.toList[j].born:=by rw[y',pE q];rfl
     rw[y,aj0 VW] at O
     have:j=es.toList[j].born:=by simpa using O
     rw[this];simpa using hm
    .obtain⟨b1,Q⟩:=Pw y he;have hk:ks[e.born]?=some e.key:=H9 e1 Q
     have S:(es.toList.map (·.val))[e.born]?=some e.val:=by rw[y',Q];rfl
     have ah:xs.length=es.toList.length:=by have:=L.length;simpa using this
     obtain⟨v,hv⟩:∃v,xs[e.born]?=some v:=⟨_,pE (by have:=(ru.1 Q).1;omega)⟩;obtain⟨vv,r,U⟩:=L.get hv
     have:vv=e.val:=by rw[S] at r;simpa using r.symm
     subst this;have s:yP e.key=true:=kZ.1 C _ (HP hk);have V:=I e.born e.key v hk hv (by simpa using M)
     have t:WR T n w0.heap.size ρ F R fr H a N:=by
      rcases k with rfl|rfl
      .exact h
      .exact h.drew
     have u:Ext w0.heap.size G0 F0 n0 w0 ρ.G F H.length N:=by
      rcases k with rfl|rfl
      .exact A
      .exact A.drew
     have W:N.heap[ρ.G i]?=some (.mapIter (some (ρ.G o)) clock seen.toArray clock):=by
      rcases k with rfl|rfl
      .exact g1
      .exact g1
     obtain⟨s1,s2⟩:=heap_set (o':=.mapIter (some (ρ.G o)) clock (seen.toArray.push e.born) clock) W
     have X:lV F ρ.G ρ.n [.mV o clock (seen++[e.born])] (.mapIter (some (ρ.G o)) clock (seen.toArray.push e.born) clock):=by
      have:=lV.iter (F:=F) (G:=ρ.G) (n:=ρ.n) (o:=o) (since:=clock) (seen:=seen++[e.born]) (by rw[h.hn];exact J);simpa using this
     refine⟨_,_,_,_,c,V,ρ,F,R,(t.Iw hi abm abm s1 s2 X).put Z (.p (.tuple (vs:=[.bool true,e.key,e.val]) (.cons (.sc rfl) (.cons (.sc s) (.cons U .nil))))),?_⟩;rw[YG];refine u.Rn rfl rfl rfl abm λb O hn=>s2 b ?_;rintro rfl;exact hn i (ru.1 hi).1 rfl
   .exact f.elim
  .exact f.elim
 .exact f.elim
end
end Go.lD
