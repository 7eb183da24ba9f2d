/- Part of the proof of KernelLifts, KernelPuts, KernelCuts: layer. -/
import Derived.Laws.IdiomStrings
import Derived.Scope
import Derived.Test.YtobcafblgapgfaaGreatDoorL3
set_option linter.all false
namespace Go.tq
open Go
def qx(P:Program)(f:FuncId):Bool:=
 match P.funcs[f]?with
 |some fn=>fn.body.isSome&&fn.name != "runtime.NumGoroutine"
 |none=>false
def gG(P:Program)(T:fx)(f:FuncId)(args:List AV)(H:dM)(Post:AV->dM->Prop):Prop:=
 qx P f=true/\∀(G:Nat->Nat) (F:rv) (w:World) (vs:List Value),GW T G F H w->kR F G H.length args vs->Calls P f vs.toArray w λe w'=>∃r H' v G' F',Post r H'/\e=.returned v/\GW T G' F' H' w'/\k5 F' G' H'.length r v/\Ext w.heap.size G F H.length w G' F' H'.length w'
def fg(P:Program)(T:fx)(f:FuncId)(args:List AV)(H:dM)(r:AV)(H':dM):Prop:=gG P T f args H λb a=>b=r/\a=H'
theorem gG.mono{P:Program}{T:fx}{f:FuncId}{args:List AV}{H:dM}{Post Post':AV->dM->Prop}(h:gG P T f args H Post)(a:∀r H',Post r H'->Post' r H'):gG P T f args H Post':=
 ⟨h.1,λG F w vs hg b=>(h.2 G F w vs hg b).mono λ_ _ ⟨r,H',v,G',F',c,d⟩=>⟨r,H',v,G',F',a _ _ c,d⟩⟩
def fg.post{P:Program}{T:fx}{f:FuncId}{args:List AV}{H H':dM}{r:AV}{Post:AV->dM->Prop}(h:fg P T f args H r H')(a:Post r H'):gG P T f args H Post:=
 gG.mono h λe b ⟨c,d⟩=>by subst c;subst d;exact a
def BL(P:Program)(T:fx)(a:AV)(args:List AV)(H:dM)(Post:AV->dM->Prop):Prop:=
 match a with
 |.func (.func g) first cap=>gG P T g (first++args++cap) H Post
 |_=>False
section
variable{P:Program} {T:fx} {n:Nat} {G0:Nat->Nat} {F0:rv} {n0:Nat} {w0:World} {fr:Fr} {H:dM} {a:Act} {w:World}
open Classical in
def WR.called{ρ:Maps}{F:rv}{R:Nat->x0}{B0:Nat}(h:WR T n B0 ρ F R fr H a w){G':Nat->Nat}{F':rv}{H':dM}{w':World}(hg:GW T G' F' H' w')
  (i:Ext w.heap.size ρ.G F H.length w G' F' H'.length w'):∃ρ' s,ρ'.G=G'/\ρ'.n=H'.length/\WR T n B0 ρ' F' s fr H' a w':=by
 let ρ':Maps:={ρ with G:=G',n:=H'.length}
 let s:Nat->x0:=λb=>if∃o,H.length<=o/\o<H'.length/\G' o=b then .sN else R b
 have x:M4 F F' ρ.G G' ρ.n H'.length:=by
  refine⟨λb o v D=>?_,by rw[h.hn];exact i.len,λo q=>i.hG o (by rw[<-h.hn];exact q)⟩;exact i.mF b o v (h.adt D) D
 have t:Dr F F' ρ ρ':=⟨x,λ_=>jM _,λ_ _ _=>rfl,λ_=>jM _,λ_ _ _=>rfl⟩
 have f:∀b,b<w.heap.size->s b=R b:=by
  intro b hb;show(if∃o,H.length<=o/\o<H'.length/\G' o=b then x0.sN else R b)=R b;rw[cJ];rintro⟨o,h1,p,rfl⟩;have:=i.R3 o h1 p;omega
 have l:∀b,R b≠ .sN->∀o,o<H.length->ρ.G o≠b:=by
  rintro b hb o q rfl;exact hb (h.vQ o q)
 refine⟨ρ',s,rfl,rfl,⟨hg,h.size,h.defers,h.env.grow t,rfl,h.lg,h.ag,?_,?_,?_,?_,?_,DJ h.Ag i.size⟩⟩
 ·intro d cs I;obtain⟨h1,p,y,vs,ty,r,z⟩:=h.box d cs I;have g:=xR r;exact⟨h1,by rw[f _ g];exact p,y,vs,ty,(i.heap _ g (l _ (by rw[p];simp))).trans r,z.mono λ_ _ _ h=>h.grow t⟩
 ·intro k m J b c sz K;obtain⟨h1,p,y,A,⟨vs,ty,r,z⟩,L⟩:=h.tok k m J b c sz K;have g:=xR r;refine⟨h1,by rw[f _ g];exact p,y,A,⟨vs,ty,(i.heap _ g (l _ (by rw[p];simp))).trans r,z⟩,λj M=>?_⟩;rw[i.hF b j g (l _ (by rw[p];simp))];exact L j M
 ·intro b j v E;rcases zj b w.heap.size with hb|hb
  ·rw[f b hb]
   by_cases u:∃o,o<H.length/\ρ.G o=b
   ·obtain⟨o,q,rfl⟩:=u;rw[h.vQ o q];simp
   ·rw[i.hF b j hb λo q e=>u ⟨o,q,e⟩] at E;exact h.AG b j v E
  ·intro d;show(if∃o,H.length<=o/\o<H'.length/\G' o=b then x0.sN else R b)≠ .box d
   split
   ·simp
   ·rw[h.tf b hb];simp
 ·intro o q;rcases zj o H.length with h1|h1
  ·have B:=h.vQ o h1
   have g:ρ.G o<w.heap.size:=by
    rcases zj (ρ.G o) w.heap.size with h'|h'
    ·exact h'
    ·rw[h.tf _ h'] at B;cases B
   show s (G' o)=.sN;rw[i.hG o h1,f _ g];exact B
  ·show(if∃o',H.length<=o'/\o'<H'.length/\G' o'=G' o then x0.sN else R (G' o))=.sN;rw[cL ⟨o,h1,q,rfl⟩]
 ·intro b hb;show(if∃o,H.length<=o/\o<H'.length/\G' o=b then x0.sN else R b)=.free;rw[cJ]
  ·exact h.tf b (DJ i.size hb)
  ·rintro⟨o,h1,p,rfl⟩;have C:H'[o]?=some H'[o]:=mr p;obtain⟨N,r,_⟩:=hg.sN o _ C;have:=xR r;omega
end
def Ok(E:List Nat)(dst:Option Nat)(v:AV)(K:Fr->dM->Prop)(fr:Fr)(H:dM):Prop:=
 if dst.any E.contains then(match v with|.slice _ l=>K (fr.put dst (.Iv H.length 0 l.length l.length)) (H++[l.flatMap AV.cells])|_=>False)else K (fr.put dst v) H
def W4(P:Program)(dst:Option Nat)(s d:TypeId)(x:AV)(K:Fr->dM->Prop)(fr:Fr)(H:dM):Prop:=
 match Wx P s d x with
 |some v=>K (fr.put dst v) H|none=>match P.underlying s,P.underlying d,x with
  |some .string,some (.slice e),.sc (.string y)=>P.underlying e=some (.int .u8)/\y.size<=uM/\∀cap k,y.size<=cap->K (fr.put dst (.Iv H.length 0 y.size cap)) (H++[zc y++NF k])|_,_,_=>False
def A9(P:Program)(T:fx)(E:List Nat)(o:Oper)(K:Fr->dM->Prop)(fr:Fr)(H:dM):Prop:=
 match o.op with
 |.alloc t=>match q_ P t with
  |some z=>rG E o.dst z K fr H|none=>False
 |.box _ x=>iu (ev T fr x)=true/\rG E o.dst (ev T fr x).cells K fr H|.load t x=>match Ds P fr H t (ev T fr x)with
  |some v=>K (fr.put o.dst v) H|none=>False
 |.store t x y=>o.dst=none/\uh P t (ev T fr x) (ev T fr y) K fr H|.buildSlice t n ps=>match uL P t n (ps.toList.map λp=>(p.1,ev T fr p.2))with
  |some v=>Ok E o.dst v K fr H|none=>False
 |.convert s d x=>W4 P o.dst s d (ev T fr x) K fr H|.call c=>match c.callee with
  |.builtin .append=>(uU P T c o.dst K fr H\/Mg P T c o.dst K fr H)\/Lo P T c o.dst K fr H|.builtin _=>match Fp P T fr c with
   |some v=>K (fr.put o.dst v) H|none=>False
  |.value f=>BL P T (ev T fr f) (c.args.toList.map λx=>(ev T fr x).norm) H λr H'=>K (fr.put o.dst r) H'|.invoke _ _=>False
 |.makeMap _ none=>O2 o.dst K fr H|.mapUpdate t m k x=>o.dst=none/\BR P t (ev T fr m) (ev T fr k) (ev T fr x) K fr H|.insert t m k x=>o.dst=none/\BR P t (ev T fr m) (ev T fr k) (ev T fr x) K fr H|.lookup t x i ok=>match Dz P H t (ev T fr x) (ev T fr i) ok with
  |some v=>K (fr.put o.dst v) H|none=>False
 |.range t x=>OS P t (ev T fr x) o.dst K fr H|.next it false=>Rb (ev T fr it) o.dst K fr H|.entry it=>match MY (ev T fr it) H with
  |some v=>K (fr.put o.dst v) H|none=>False
 |_=>match Hx P T fr o with
  |some v=>K (fr.put o.dst v) H|none=>False
def Bs(n:Nat)(o:Oper):Bool:=o.dst.all (λd=>decide (d<n))&&o.op.operands.all oX
def HU{n:Nat}{o:Oper}(h:Bs n o=true):∀d,o.dst=some d->d<n:=by grind[Bs]
def TM{n:Nat}{o:Oper}(h:Bs n o=true):o.op.operands.all oX=true:=by grind[Bs]
section
variable{P:Program} {T:fx} {n:Nat} {G0:Nat->Nat} {F0:rv} {n0:Nat} {w0:World} {fr:Fr} {H:dM} {a:Act} {w:World}
def Sn(w:World){f:FuncId}(h:qx P f=true)(args:Array Value):(callFunc f args).run P w=.ok (.enter f args) w:=by
 unfold qx at h
 split at h
 ·rename_i fn a;simp only[ew] at h;simp[callFunc,a,h.2]
  grind
 ·cases h
def Qg{ρ:Maps}{F:rv}{R:Nat->x0}(h:WR T n w0.heap.size ρ F R fr H a w)(m:Ext w0.heap.size G0 F0 n0 w0 ρ.G F H.length w)(s d:TypeId){e:TypeId}(y:ByteArray)(hs:P.underlying s=some .string)(p:P.underlying d=some (.slice e))
  (he:P.underlying e=some (.int .u8)) (f:y.size<=uM) {dst:Option Nat} (g:∀d,dst=some d->d<n):∃w',(convert s d (.string y)).run P w=.ok (.slice (some ⟨w.heap.size,0,none⟩) y.size (grownCap w y.size 0 e)) w'/\SR T n G0 F0 n0 w0 (fr.put dst (.Iv H.length 0 y.size (grownCap w y.size 0 e))) (H++[zc y++NF (grownCap w y.size 0 e-y.size)]) (a.put dst (.slice (some ⟨w.heap.size,0,none⟩) y.size (grownCap w y.size 0 e))) w':=by
 have i:=grownCap_ge w y.size 0 e;have hle:=grownCap_le_maxLen w y.size 0 e (by have:y.size<=1099511627776:=f;simp only[maxLen];omega);refine⟨_,run_bytes_of_string w s d e y hs p he,DD h.drew m.drew (.cells (.inr (jM _)) ?_ ?_) g ?_⟩
 ·have q:(bytesRow y (grownCap w y.size 0 e)).toList=Lib.strCells y++List.replicate (grownCap w y.size 0 e-y.size) (.int .u8 0):=by
   simp[bytesRow,Lib.strCells]
  rw[q];refine .append ?_ ?_
  ·have r:=(EH (F:=F) (G:=ρ.G) (k:=ρ.n) (Lib.strCells y) (λv t=>by obtain⟨b,_,rfl⟩:=nj.1 t;rfl)).DL
   have u:(Lib.strCells y).map AV.sc=zc y:=by simp[Lib.strCells,zc]
   rwa [u] at r
  ·generalize grownCap w y.size 0 e-y.size=k
   induction k with
   |zero=>exact .nil|succ k x=>
    show lY _ (List.replicate (k+1) AV.undef) (List.replicate (k+1) _);exact .cons (.undef rfl) x
 ·intro c hc;rcases tA.1 hc with hc|hc
  ·obtain⟨b,_,rfl⟩:=nj.1 hc;rfl
  ·exact OP _ c hc
 ·intro ρ' hG j l;have:=k5.Iv (F:=F) (G:=ρ'.G) (n:=ρ'.n) (o:=H.length) (off:=0) (len:=y.size) (cap:=grownCap w y.size 0 e) (by rw[l];omega) i hle;rw[j] at this;exact this
def No{E:List Nat}{o:Oper}{K:Fr->dM->Prop}{Q:Exit->Act->World->Prop}(S:Bs n o=true)(hs:SR T n G0 F0 n0 w0 fr H a w)(h:A9 P T E o K fr H):o.wp P a w (λY w'=>∃fr' H',K fr' H'/\SR T n G0 F0 n0 w0 fr' H' Y w') Q:=by
 obtain⟨ρ,F,R,hw,q⟩:=hs;have D:=HU S;have M:=TM S
 have L:∀{v:AV},(∃u,(execOp a.eval o).run P w=.ok (.value u) w/\kI F ρ v u)->K (fr.put o.dst v) H->o.wp P a w (λY w'=>∃fr' H',K fr' H'/\SR T n G0 F0 n0 w0 fr' H' Y w') Q:=by
  rintro v ⟨u,N,hu⟩ I;unfold Oper.wp;rw[N];exact⟨_,_,I,ρ,F,R,hw.put D hu,q⟩
 have l:∀{s:Sem Value} {u:Value} {w':World},execOp a.eval o=(do pure (.value (<-s)))->s.run P w=.ok u w'->(∃fr' H',K fr' H'/\SR T n G0 F0 n0 w0 fr' H' (a.put o.dst u) w')->o.wp P a w (λY w'=>∃fr' H',K fr' H'/\SR T n G0 F0 n0 w0 fr' H' Y w') Q:=by
  intro s u w' he N I;unfold Oper.wp;rw[he,mb,N];exact I
 obtain⟨dst,op,type,pos,after,guard⟩:=o;simp only at M D;have j:∀x∈op.operands,oX x=true:=λx q=>QF.1 M x q;unfold A9 at h;simp only at h
 split at h
 ·--alloc
  rename_i t
  split at h
  ·rename_i cells ah;obtain⟨z,hz,ai,ak,rfl⟩:=Ry ah;have an:=h
   have ao:∀vs,z≠ .tuple vs:=by rintro vs rfl;simp[ofValue,iu] at ak
   obtain⟨Z,aq⟩:=Ka ai ao;refine l (s:=Instr.alloc t true (.tuple #[])) rfl (Ug w hz) ?_;refine Nu hw q an D t ?_ ?_
   ·rw[Z];exact(zJ F ρ.G ρ.n _ aq).DL.mono λ_ _ _ h=>.p h
   ·rw[Z];intro c V;obtain⟨u,_,rfl⟩:=nj.1 V;exact Ht u
  ·exact h.elim
 ·--box
  rename_i t x;obtain⟨h1,h2⟩:=h;have A:=kS hw.env hw.nA x (j x (by simp[Op.operands]));exact l (s:=Instr.box t (a.eval x)) rfl rfl (Nu hw q h2 D t (A.cells (m_ h1)) (A.F5 (m_ h1)))
 ·--load
  rename_i t x
  split at h
  ·rename_i v C;have A:=kS hw.env hw.nA x (j x (by simp[Op.operands]));obtain⟨u,hu,N⟩:=Q5 hw C A;exact l (s:=Instr.loadAt t (a.eval x)) rfl hu ⟨_,_,h,ρ,F,R,hw.put D N,q⟩
  ·exact h.elim
 ·--store
  rename_i t x y;obtain⟨J,h⟩:=h;subst J;have A:=kS hw.env hw.nA x (j x (by simp[Op.operands]));have ar:=kS hw.env hw.nA y (j y (by simp[Op.operands]));obtain⟨fr',H',w',b,I,hs⟩:=T0 hw q h A ar;unfold Oper.wp;have e:execOp a.eval {dst:=none,op:=.store t x y,type:=type,pos:=pos,after:=after,guard:=guard}=(do Instr.storeAt t (a.eval x) (a.eval y);pure .skip):=rfl;rw[e,mb,b];exact⟨fr',H',I,hs⟩
 ·--buildSlice
  rename_i t k ps
  split at h
  ·rename_i v C;have hp:=PM hw.env hw.nA ps.toList λp hp=>j p.2 (by simp[Op.operands];exact⟨p.1,by simpa using hp⟩)
   have e:(ps.toList.map λp=>(p.1,a.eval p.2)).toArray=ps.map λp=>(p.1,a.eval p.2):=by rw[<-UP,Vl]
   unfold Ok at h
   split at h
   ·split at h
    ·obtain⟨u,w',b,hs⟩:=Lu hw q C hp D;rw[e] at b;unfold Oper.wp;simp only[execOp,mb,b,qP];exact⟨_,_,h,hs⟩
    ·exact h.elim
   ·obtain⟨u,w',b,hs⟩:=MU hw q C hp D;rw[e] at b;unfold Oper.wp;simp only[execOp,mb,b,qP];exact⟨_,_,h,hs⟩
  ·exact h.elim
 ·--convert
  rename_i t d x;have A:=kS hw.env hw.nA x (j x (by simp[Op.operands]));unfold W4 at h
  split at h
  ·rename_i v C;refine L (v:=v) (KI w hw.g.NK hw.env hw.nA M ?_) h;simp only[Hx];exact C
  ·split at h
   ·rename_i e y hs aw ax;obtain⟨he,aa,h⟩:=h;rw[ax] at A;have C:=jG A;obtain⟨w',b,ay⟩:=Qg hw q t d y hs aw he aa D;refine l (s:=convert t d (a.eval x)) rfl (by rw[C];exact b) ⟨_,_,h _ _ (by simpa using grownCap_ge w y.size 0 e),ay⟩
   ·exact h.elim
 ·--call
  rename_i c;obtain⟨callee,args,argTypes⟩:=c;have B:∀x∈args.toList,oX x=true:=λx q=>j x (by simp[Op.operands,Call.operands,Ib.1 q])
  split at h
  ·--append
   rename_i V;simp only at V;subst V;obtain⟨u,w',fr',H',b,I,hs⟩:=h.elim (λh=>h.elim (λh=>R0 (ty:=type) hw q h D B) (λh=>Qo (ty:=type) hw q h D B)) (λh=>QS (ty:=type) hw q h D B);unfold Oper.wp execOp;simp only[resolve,invoke,builtin,mb,yr,qP];rw[b];exact⟨fr',H',I,hs⟩
  ·--ab builtin
   split at h
   ·rename_i v C;refine L (v:=v) (KI w hw.g.NK hw.env hw.nA M ?_) h;simp only[Hx];exact C
   ·exact h.elim
  ·--a U value
   rename_i f V;simp only at V;subst V;unfold BL at h;have ad:=kS hw.env hw.nA f (j f (by simp[Op.operands,Call.operands]))
   split at h
   ·rename_i g first cap hf
    rw[hf] at ad;obtain⟨vf,vc,C,az,aA⟩:=JV ad;obtain⟨ae,W⟩:=h;have O:=O4 hw.env hw.nA args.toList B
    have X:kR F ρ.G H.length (first++(args.toList.map λx=>(ev T fr x).norm)++cap) (vf++args.toList.map a.eval++vc):=by
     rw[<-hw.hn];exact((kR.xU az).append O).append (.xU aA)
    have hC:=W ρ.G F w _ hw.g X;unfold Oper.wp
    have e:(execOp a.eval {dst:=dst,op:=.call {callee:=.value f,args:=args,argTypes:=argTypes},type:=type,pos:=pos,after:=after,guard:=guard}).run P w=.ok (.enter g (vf++args.toList.map a.eval++vc).toArray) w:=by
     simp only[execOp,resolve,mb];rw[C];simp only[Deferred.ofValue,yr,qP,invoke];rw[Sn w ae]
     congr 2
     apply Pl.1;simp
    rw[e];show Calls P g _ w _;refine hC.mono ?_;rintro e' w' ⟨r,H',v,G',F',I,rfl,aB,aC,af⟩;obtain⟨ρ',R',hG,aD,aE⟩:=hw.called aB af;refine⟨_,_,I,ρ',F',R',aE.put D (.p ?_),?_⟩
    ·rw[hG,aD];exact aC
    ·rw[hG];exact q.trans (af.mono hw.Ag)
   ·exact h.elim
  ·exact h.elim
 ·--makeMap
  obtain⟨v,w',b,hs⟩:=Qq (P:=P) hw q D;exact l (s:=Instr.makeMap _ none) rfl b ⟨_,_,h,hs⟩
 ·--mapUpdate
  rename_i t m k x;obtain⟨J,h⟩:=h;subst J;obtain⟨fr',H',w',b,I,hs⟩:=Mb hw q h (kS hw.env hw.nA m (j m (by simp[Op.operands]))) (kS hw.env hw.nA k (j k (by simp[Op.operands]))) (kS hw.env hw.nA x (j x (by simp[Op.operands])));unfold Oper.wp;have e:execOp a.eval {dst:=none,op:=.mapUpdate t m k x,type:=type,pos:=pos,after:=after,guard:=guard}=(do Instr.mapUpdate t (a.eval m) (a.eval k) (a.eval x);pure .skip):=rfl;rw[e,mb,b];exact⟨fr',H',I,hs⟩
 ·--insert
  rename_i t m k x;obtain⟨J,h⟩:=h;subst J;obtain⟨fr',H',w',b,I,hs⟩:=Mb hw q h (kS hw.env hw.nA m (j m (by simp[Op.operands]))) (kS hw.env hw.nA k (j k (by simp[Op.operands]))) (kS hw.env hw.nA x (j x (by simp[Op.operands])));unfold Oper.wp;have e:execOp a.eval {dst:=none,op:=.insert t m k x,type:=type,pos:=pos,after:=after,guard:=guard}=(do Instr.mapUpdate t (a.eval m) (a.eval k) (a.eval x);pure .skip):=rfl;rw[e,mb,b];exact⟨fr',H',I,hs⟩
 ·--lookup
  rename_i t x i ok
  split at h
  ·rename_i v C;obtain⟨u,hu,N⟩:=TX hw C (kS hw.env hw.nA x (j x (by simp[Op.operands]))) (kS hw.env hw.nA i (j i (by simp[Op.operands])));exact l (s:=Instr.lookup t (a.eval x) (a.eval i) ok) rfl hu ⟨_,_,h,ρ,F,R,hw.put D N,q⟩
  ·exact h.elim
 ·--range
  rename_i t x;obtain⟨v,w',fr',H',b,I,hs⟩:=SP hw q h D (kS hw.env hw.nA x (j x (by simp[Op.operands])));exact l (s:=Instr.range t (a.eval x)) rfl b ⟨_,_,I,hs⟩
 ·--next
  rename_i it;obtain⟨v,w',fr',H',b,I,hs⟩:=Ux hw q type h D (kS hw.env hw.nA it (j it (by simp[Op.operands])));exact l (s:=Instr.next (a.eval it) false type) rfl b ⟨_,_,I,hs⟩
 ·--entry
  rename_i it
  split at h
  ·rename_i v C;obtain⟨u,hu,N⟩:=Uh (P:=P) hw C (kS hw.env hw.nA it (j it (by simp[Op.operands])));exact l (s:=Instr.entry (a.eval it)) rfl hu ⟨_,_,h,ρ,F,R,hw.put D N,q⟩
  ·exact h.elim
 ·--all others only compute
  split at h
  ·rename_i v C;exact L (v:=v) (KI w hw.g.NK hw.env hw.nA M C) h
  ·exact h.elim
end
end Go.tq
namespace Go.tq
open Go
def LD(P:Program)(T:fx)(E:List Nat)(ops:Array Oper)(o:Oper)(K:Fr->dM->Prop)(fr:Fr)(H:dM):Prop:=
 match o.guard with
 |none=>A9 P T E o K fr H|some (j,want)=>
  match(ops[j]?).bind (·.dst)with
  |some d=>
   match fr.env d with
   |.sc (.bool b)=>if b=want then A9 P T E o K fr H else K (fr.put o.dst (.tuple [])) H|.tuple _=>K (fr.put o.dst (.tuple [])) H|_=>False
  |none=>False
def mZ(P:Program)(T:fx)(E:List Nat)(ops:Array Oper):List Oper->(Fr->dM->Prop)->Fr->dM->Prop
 |[],K,fr,H=>K fr H|o::rest,K,fr,H=>LD P T E ops o (λfr H=>mZ P T E ops rest K fr H) fr H
def HO(n:Nat)(ops:Array Oper):Bool:=ops.all (Bs n)
section
variable{P:Program} {T:fx} {n:Nat} {G0:Nat->Nat} {F0:rv} {n0:Nat} {w0:World} {fr:Fr} {H:dM} {a:Act} {w:World}
def M8{F:rv}{ρ:Maps}:kI F ρ (.tuple []) undef:=.p (.tuple (vs:=[]) .nil)
theorem SR.put(hs:SR T n G0 F0 n0 w0 fr H a w){d:Option Nat}(c:∀b,d=some b->b<n):SR T n G0 F0 n0 w0 (fr.put d (.tuple [])) H (a.put d undef) w:=by
 obtain⟨ρ,F,R,hw,e⟩:=hs;exact⟨ρ,F,R,hw.put c M8,e⟩
def UA(hs:SR T n G0 F0 n0 w0 fr H a w){ops:Array Oper}{j d:Nat}{b:Bool}(f:(ops[j]?).bind (·.dst)=some d)(he:fr.env d=.sc (.bool b)):yielded ops a.tmps j=some b:=by
 obtain⟨ρ,F,R,hw,g⟩:=hs;have h:=hw.env d;rw[he] at h;have c:=jG h;unfold yielded;cases e:a.tmps[d]?with
 |none=>rw[TB,e] at c;cases c
 |some v=>simp_all
def Qm(hs:SR T n G0 F0 n0 w0 fr H a w){ops:Array Oper}{j d:Nat}{l:List AV}(b:(ops[j]?).bind (·.dst)=some d)(he:fr.env d=.tuple l):yielded ops a.tmps j=none:=by
 obtain⟨ρ,F,R,hw,e⟩:=hs;have h:=hw.env d;rw[he] at h;unfold yielded;rw[b];simp only[Option.bind_some];cases c:a.tmps[d]?with
 |none=>rfl|some v=>
  rw[TB,c] at h;cases h with
  |cell h=>cases h with|p h=>cases h;rfl
def Nq{E:List Nat}{ops:Array Oper}{i:Nat}{o:Oper}{K:Fr->dM->Prop}{Q:Exit->Act->World->Prop}(hi:ops[i]?=some o)(c:Bs n o=true)(hs:SR T n G0 F0 n0 w0 fr H a w)
  (h:LD P T E ops o K fr H) {N:Act->World->Prop} (g:∀fr' H' f w',K fr' H'->SR T n G0 F0 n0 w0 fr' H' f w'->N f w'):wpOp P ops Q i N a w:=by
 unfold wpOp;simp only[hi];unfold LD at h
 split at h
 ·rename_i hg;rw[cL (by simp[Region.wanted,hg])];exact .inl (Oper.wp_mono (λf w' ⟨fr',H',k,e⟩=>g fr' H' f w' k e) (No c hs h))
 ·rename_i j want hg
  split at h
  ·rename_i d p
   split at h
   ·rename_i b he;have hy:=UA hs p he
    split at h
    ·rename_i m;rw[cL (by simp[Region.wanted,hg,hy,m])];exact .inl (Oper.wp_mono (λf w' ⟨fr',H',k,e⟩=>g fr' H' f w' k e) (No c hs h))
    ·rename_i m;rw[cJ (by simp[Region.wanted,hg,hy,m])];exact g _ _ _ _ h (hs.put (HU c))
   ·rename_i l he;have hy:=Qm hs p he;rw[cJ (by simp[Region.wanted,hg,hy])];exact g _ _ _ _ h (hs.put (HU c))
   ·exact h.elim
  ·exact h.elim
def UQ{E:List Nat}{ops:Array Oper}{K:Fr->dM->Prop}{Q:Exit->Act->World->Prop}(b:HO n ops=true)
  (g:∀fr' H' f w',K fr' H'->SR T n G0 F0 n0 w0 fr' H' f w'->Q .normal f w'):∀(l:List Oper) (k:Nat) (fr:Fr) (H:dM) (a:Act) (w:World),l=ops.toList.drop k->SR T n G0 F0 n0 w0 fr H a w->mZ P T E ops l K fr H->wpOps P ops Q (List.range' k l.length) a w:=by
 intro l
 induction l with
 |nil=>
  intro k fr H a w c hs h;simp only[o7,List.range'_zero,wpOps];exact g _ _ _ _ h hs
 |cons o l j=>
  intro k fr H a w c hs h
  have d:k<ops.toList.length:=by
   rcases zj k ops.toList.length with h'|h'
   ·exact h'
   ·rw[Od h'] at c;cases c
  have i:=MC d;rw[i] at c;injection c with m p
  have hi:ops[k]?=some o:=by grind
  simp only[hQ,YQ];rw[wpOps_cons];have e:Bs n o=true:=QF.1 b o (VE hi);refine Nq hi e hs h ?_
  grind
end
def jF(P:Program)(T:fx)(n:Nat)(c:Code)(Q:Exit->Fr->dM->Prop)(fr:Fr)(H:dM):Prop:=
 ∀G0 F0 n0 w0 a w,SR T n G0 F0 n0 w0 fr H a w->c.wp P (λe b w'=>∃fr' H',Q e fr' H'/\SR T n G0 F0 n0 w0 fr' H' b w') a w
def PC(K:Fr->dM->Prop)(Q:Exit->Fr->dM->Prop):Exit->Fr->dM->Prop
 |.normal,fr,H=>K fr H|e,fr,H=>Q e fr H
def Px(id:Nat)(Q:Exit->Fr->dM->Prop):Exit->Fr->dM->Prop
 |.exit a,fr,H=>if a=id then Q .normal fr H else Q (.exit a) fr H|e,fr,H=>Q e fr H
section
variable{P:Program} {T:fx} {n:Nat} {Q Q':Exit->Fr->dM->Prop} {fr:Fr} {H:dM}
theorem jF.mono{c:Code}(h:jF P T n c Q fr H)(b:∀e fr H,Q e fr H->Q' e fr H):jF P T n c Q' fr H:=
 λG0 F0 n0 w0 a w hs=>wp_mono (h G0 F0 n0 w0 a w hs) λ_ _ _ ⟨fr',H',d,f⟩=>⟨fr',H',b _ _ _ d,f⟩
def jF.skip(h:Q .normal fr H):jF P T n .skip Q fr H:=λ_ _ _ _ _ _ hs=>wp_skip ⟨_,_,h,hs⟩
def jF.label{l:Nat}(h:Q .normal fr H):jF P T n (.label l) Q fr H:=λ_ _ _ _ _ _ hs=>wp_label ⟨_,_,h,hs⟩
def jF.scope{c:Code}(h:jF P T n c (λe fr H=>(match e with|.goto _=>False|_=>True)/\Q e fr H) fr H):jF P T n (.scope c) Q fr H:=
 λG0 F0 n0 w0 a w hs=>wp_scope_straight (wp_mono (h G0 F0 n0 w0 a w hs) λe _ _ ⟨fr',H',b,d⟩=>by
  cases e<;>first|exact b.1.elim|exact⟨fr',H',b.2,d⟩)
def jF.exit{id:Nat}(h:Q (.exit id) fr H):jF P T n (.exit id) Q fr H:=λ_ _ _ _ _ _ hs=>wp_exit ⟨_,_,h,hs⟩
def jF.ret(h:Q .ret fr H):jF P T n .ret Q fr H:=λ_ _ _ _ _ _ hs=>wp_ret ⟨_,_,h,hs⟩
def jF.seq{x y:Code}(h:jF P T n x (PC (jF P T n y Q) Q) fr H):jF P T n (.seq x y) Q fr H:=by
 intro G0 F0 n0 w0 a w hs;refine wp_seq (wp_mono (h G0 F0 n0 w0 a w hs) ?_);rintro e d w' ⟨fr',H',b,c⟩
 cases e<;>first|exact b G0 F0 n0 w0 d w' c|exact⟨fr',H',b,c⟩
def jF.cond{c:Operand}{x y:Code}{t:Bool}(d:ev T fr c=.sc (.bool t))(f:oX c=true)(g:t=true->jF P T n x Q fr H)(i:t=false->jF P T n y Q fr H):jF P T n (.cond c x y) Q fr H:=by
 intro G0 F0 n0 w0 a w hs;have b:=hs;obtain⟨ρ,F,R,hw,j⟩:=b;have h:=kS hw.env hw.nA c f;rw[d] at h;exact wp_cond_split (jG h) (λe=>g e G0 F0 n0 w0 a w hs) (λe=>i e G0 F0 n0 w0 a w hs)
def jF.block{id:Nat}{c:Code}(h:jF P T n c (Px id Q) fr H):jF P T n (.block id c) Q fr H:=by
 intro G0 F0 n0 w0 a w hs;refine wp_block (wp_mono (h G0 F0 n0 w0 a w hs) ?_);rintro e g w' ⟨fr',H',b,d⟩;cases e with
 |exit f=>
  simp only[Px,Exit.inBlock] at b|-
  grind
 |_=>exact⟨fr',H',b,d⟩
def jF.region{id:Nat}{ops:Array Oper}(E:List Nat)(b:HO n ops=true)(h:mZ P T E ops ops.toList (Q .normal) fr H):jF P T n (.region id ops false) Q fr H:=by
 intro G0 F0 n0 w0 a w hs;refine wp_region ?_;have:=UQ (Q:=λe c w'=>∃fr' H',Q e fr' H'/\SR T n G0 F0 n0 w0 fr' H' c w') b (λfr' H' c w' d f=>⟨fr',H',d,f⟩) ops.toList 0 fr H a w aae hs h;rw[XI]
 grind
def ALp(P:Program)(T:fx)(n:Nat)(c:Code)(Q:Exit->Fr->dM->Prop)(fr:Fr)(H:dM):Prop:=
 ∀G0 F0 n0 w0 a w,SR T n G0 F0 n0 w0 fr H a w->∀(b:Frame) (k:List Item) (cs:List Frame),∃e d w',(∃fr' H',Q e fr' H'/\SR T n G0 F0 n0 w0 fr' H' d w')/\Arrives P (lone (b.at a (.code c::.inLoop c::k)) cs w) b k cs e d w'
def jF.loop{c:Code}(h:ALp P T n c Q fr H):jF P T n (.loop c) Q fr H:=by
 intro G0 F0 n0 w0 a w hs b k cs;obtain⟨e,f,w',g,d⟩:=h G0 F0 n0 w0 a w hs b k cs;exact⟨e,f,w',g,.of_steps (.one step_loop) d⟩
theorem ALp.round{c:Code}(h:jF P T n c (PC (ALp P T n c Q) Q) fr H):ALp P T n c Q fr H:=by
 intro G0 F0 n0 w0 a w hs b k cs;obtain⟨e,i,j,⟨fr',H',g,o⟩,d⟩:=h G0 F0 n0 w0 a w hs b (.inLoop c::k) cs
 have pass:∀e,e≠ .normal->Q e fr' H'->Arrives P (lone (b.at a (.code c::.inLoop c::k)) cs w) b (.inLoop c::k) cs e i j->∃e p w',(∃fr' H',Q e fr' H'/\SR T n G0 F0 n0 w0 fr' H' p w')/\Arrives P (lone (b.at a (.code c::.inLoop c::k)) cs w) b k cs e p w':=by
  intro e he q d;exact⟨e,i,j,⟨fr',H',q,o⟩,.pass (x:=.inLoop c) rfl (λ_ _=>.inl he) d⟩
 cases e with
 |normal=>
  have r:ALp P T n c Q fr' H':=g;obtain⟨s,t,u,m,f⟩:=r G0 F0 n0 w0 i j o b k cs;exact⟨s,t,u,m,.of_steps (Steps.trans d (.one step_inLoop)) f⟩
 |exit id=>exact pass _ aae g d|goto l=>exact pass _ aae g d|ret=>exact pass _ aae g d|panic v=>exact pass _ aae g d|outgrown=>exact pass _ aae g d
end
def Uc(args:List AV):Fr:={env:=λt=>args.getD t (.tuple []),box:=λ_=>none,gen:=λ_=>0,CX:=λ_=>none,gN:=λ_=>0}
def QG(P:Program)(fr:Fr)(H:dM):List ResultVar->Option (List AV)
 |[]=>some []|.tmp t::rest=>(QG P fr H rest).map ((fr.env t).norm:: ·)|.cell a t::rest=>(Ds P fr H t (fr.env a)).bind λv=>(QG P fr H rest).map (v.norm:: ·)
def Ej:List AV->AV
 |[x]=>x|l=>.tuple l
def DU(P:Program)(rs:List ResultVar)(Post:AV->dM->Prop):Exit->Fr->dM->Prop
 |.normal,fr,H|.ret,fr,H=>match QG P fr H rs with
  |some l=>Post (Ej l) H|none=>False
 |_,_,_=>False
section
variable{P:Program} {T:fx} {n:Nat} {fr:Fr} {H:dM} {a:Act} {w:World}
def Xq(tmps:Array Value)(x:ResultVar):Sem Value:=
 match x with
 |.tmp t=>pure (tmps.getD t undef)|.cell a t=>do loadVar t (<-asAddr (tmps.getD a undef))
def Lj{t:TypeId}{u v:Value}(h:(Instr.loadAt t u).run P w=.ok v w):(do loadVar t (<-asAddr u)).run P w=.ok v w:=by
 unfold Instr.loadAt at h;cases u with
 |pointer p=>
  cases p with
  |none=>simp[Instr.sureAddr,mb,stuck,Sem.run,Result.andThen] at h
  |some a=>exact h
 |_=>simp[Instr.sureAddr,mb,stuck,Sem.run,Result.andThen] at h
def XM{ρ:Maps}{F:rv}{R:Nat->x0}{B0:Nat}(h:WR T n B0 ρ F R fr H a w):∀(rs:List ResultVar) (l:List AV),QG P fr H rs=some l->∃vs:List Value,(rs.mapM (Xq a.tmps)).run P w=.ok vs w/\kR F ρ.G ρ.n l vs:=by
 intro rs
 induction rs with
 |nil=>intro l b;simp[QG] at b;subst b;exact⟨[],rfl,.nil⟩
 |cons r rs k=>
  intro l b;cases r with
  |tmp t=>
   simp only[QG,X'] at b;obtain⟨c,d,rfl⟩:=b;obtain⟨vs,f,g⟩:=k c d;refine⟨a.tmps.getD t undef::vs,?_,.cons (h.env t).norm g⟩;simp only[Yb,mb,Xq,yr,qP,f]
  |cell i t=>
   simp only[QG,aba,X'] at b;obtain⟨v,m,c,d,rfl⟩:=b;obtain⟨vs,f,g⟩:=k c d;obtain⟨u,hu,o⟩:=Q5 h m (h.env i);refine⟨u::vs,?_,.cons o.norm g⟩;have j:=Lj hu;simp only[Yb];rw[mb];have e:(Xq a.tmps (.cell i t))=(do loadVar t (<-asAddr (a.tmps.getD i undef))):=rfl;rw[e,j,qP,mb,f];rfl
def SF{ρ:Maps}{F:rv}{R:Nat->x0}{B0:Nat}(h:WR T n B0 ρ F R fr H a w){fn:Func}{l:List AV}(c:QG P fr H fn.results.toList=some l):∃v,(results fn a.tmps).run P w=.ok v w/\k5 F ρ.G ρ.n (Ej l) v:=by
 obtain⟨vs,d,f⟩:=XM (P:=P) h _ _ c
 have e:results fn a.tmps=(do
   let vs<-fn.results.mapM (Xq a.tmps)
   pure (if h:vs.size=1 then vs[0] else .tuple vs)):=rfl
 have hm:(fn.results.mapM (Xq a.tmps)).run P w=.ok vs.toArray w:=by
  rw[abZ,run_map,d];rfl
 rw[e,mb,hm,qP,yr];refine⟨_,rfl,?_⟩;cases f with
 |nil=>exact .tuple (vs:=[]) .nil|cons b g=>
  cases g with
  |nil=>exact b|cons i j=>
   have:=k5.tuple (.cons b (.cons i j));simpa[Ej] using this
open Classical in
def gG.intro{f:FuncId}{fn:Func}{c:Code}{args:List AV}{Post:AV->dM->Prop}(K:P.funcs[f]?=some fn)(M:fn.body=some c)(q:qx P f=true)(hlen:args.length<=fn.ntmps)
  (h:jF P T fn.ntmps c (DU P fn.results.toList Post) (Uc args) H):gG P T f args H Post:=by
 refine⟨q,λG F w vs hg E=>?_⟩;refine calls_of_wp K M ?_;have s:args.length=vs.length:=E.length
 let ρ:Maps:={G:=G,n:=H.length,L:=λ_ _=>0,lg:=λ_=>0,A:=λ_ _=>none,ag:=λ_=>0}
 let R:Nat->x0:=λb=>if∃o,o<H.length/\G o=b then .sN else .free
 have hw:WR T fn.ntmps w.heap.size ρ F R (Uc args) H {tmps:=vs.toArray++Array.replicate (fn.ntmps-vs.toArray.size) undef,defers:=[]} w:=by
  refine⟨hg,?_,rfl,?_,rfl,λ_=>rfl,λ_=>rfl,?_,?_,?_,?_,?_,jM _⟩
  ·simp only[Array.size_append,aab,Array.size_replicate];omega
  ·intro t;show kI F ρ (args.getD t (.tuple [])) _;rcases zj t args.length with ht|ht
   ·obtain⟨v,x,y⟩:=E.get (mr ht)
    have z:args.getD t (.tuple [])=args[t]:=by simp[ht]
    have B:(vs.toArray++Array.replicate (fn.ntmps-vs.toArray.size) undef).getD t undef=v:=by
     rw[TB,Array.getElem?_append_left (by simpa[<-s] using ht)];simp[x]
    rw[z,B];exact .p y
   ·have z:args.getD t (.tuple [])=.tuple []:=by simp[YR ht]
    have B:(vs.toArray++Array.replicate (fn.ntmps-vs.toArray.size) undef).getD t undef=undef:=by
     rw[TB,Array.getElem?_append_right (by simpa[<-s] using ht),Array.getElem?_replicate]
     split<;>rfl
    rw[z,B];exact M8
  ·intro d cs N;cases N
  ·intro k m O;cases O
  ·intro b j v x d;show(if∃o,o<H.length/\G o=b then x0.sN else .free)≠ .box d
   split<;>simp
  ·intro o C;show(if∃o',o'<H.length/\G o'=G o then x0.sN else .free)=.sN;rw[cL ⟨o,C,rfl⟩]
  ·intro b Q;show(if∃o,o<H.length/\G o=b then x0.sN else .free)=.free;rw[cJ];rintro⟨o,C,rfl⟩;obtain⟨V,S,_⟩:=hg.sN o _ (mr C);have:=xR S;omega
 refine wp_mono (h G F H.length w _ w ⟨ρ,F,R,hw,Ext.refl⟩) ?_;rintro e I w' ⟨fr',H',a,ρ',F',W,i,D⟩
 have key:∀{l:List AV},QG P fr' H' fn.results.toList=some l->Post (Ej l) H'->I.defers=[]/\∃v,(results fn I.tmps).run P w'=.ok v w'/\∃r H' J G' F',Post r H'/\Ending.returned v=.returned J/\GW T G' F' H' w'/\k5 F' G' H'.length r J/\Ext w.heap.size G F H.length w G' F' H'.length w':=by
  intro l u U;obtain⟨v,x,y⟩:=SF i u;rw[i.hn] at y;exact⟨i.defers,v,x,_,_,v,_,_,U,rfl,i.g,y,D⟩
 cases e with
 |normal=>
  simp only[DU] at a
  split at a
  ·rename_i l u;exact key u a
  ·exact a.elim
 |ret=>
  simp only[DU] at a
  split at a
  ·rename_i l u;exact key u a
  ·exact a.elim
 |_=>exact a.elim
end
end Go.tq
