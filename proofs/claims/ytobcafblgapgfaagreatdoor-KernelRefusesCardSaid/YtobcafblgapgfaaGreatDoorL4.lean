/- Part of the proof of KernelRefuses: layer. -/
import Derived.Laws.IdiomStrings
import Derived.Scope
import Derived.Test.YtobcafblgapgfaaGreatDoorL3
set_option linter.all false
namespace Go.nd
open Go
def su(P:Program)(f:FuncId):Bool:=
 match P.funcs[f]?with
 |some fn=>fn.body.isSome&&fn.name != "runtime.NumGoroutine"
 |none=>false
def fQ(P:Program)(T:fh)(f:FuncId)(args:List AV)(H:eB)(Post:AV->eB->Prop):Prop:=
 su P f=true/\∀(G:Nat->Nat) (F:lN) (w:World) (vs:List Value),GW T G F H w->hV F G H.length args vs->Calls P f vs.toArray w λe w'=>∃r H' v G' F',Post r H'/\e=.returned v/\GW T G' F' H' w'/\ic F' G' H'.length r v/\Ext w.heap.size G F H.length w G' F' H'.length w'
def e_(P:Program)(T:fh)(f:FuncId)(args:List AV)(H:eB)(r:AV)(H':eB):Prop:=fQ P T f args H λb a=>b=r/\a=H'
theorem fQ.mono{P:Program}{T:fh}{f:FuncId}{args:List AV}{H:eB}{Post Post':AV->eB->Prop}(h:fQ P T f args H Post)(a:∀r H',Post r H'->Post' r H'):fQ P T f args H Post':=
 ⟨h.1,λG F w vs hg b=>(h.2 G F w vs hg b).mono λ_ _ ⟨r,H',v,G',F',c,d⟩=>⟨r,H',v,G',F',a _ _ c,d⟩⟩
def e_.post{P:Program}{T:fh}{f:FuncId}{args:List AV}{H H':eB}{r:AV}{Post:AV->eB->Prop}(h:e_ P T f args H r H')(a:Post r H'):fQ P T f args H Post:=
 fQ.mono h λe b ⟨c,d⟩=>by subst c;subst d;exact a
def ru(P:Program)(T:fh)(a:AV)(args:List AV)(H:eB)(Post:AV->eB->Prop):Prop:=
 match a with
 |.func (.func g) first cap=>fQ P T g (first++args++cap) H Post
 |_=>False
section
variable{P:Program} {T:fh} {n:Nat} {G0:Nat->Nat} {F0:lN} {n0:Nat} {w0:World} {fr:Fr} {H:eB} {a:Act} {w:World}
open Classical in
def WR.called{ρ:Maps}{F:lN}{R:Nat->pV}{B0:Nat}(h:WR T n B0 ρ F R fr H a w){G':Nat->Nat}{F':lN}{H':eB}{w':World}(hg:GW T G' F' H' w')
  (i:Ext w.heap.size ρ.G F H.length w G' F' H'.length w'):∃ρ' s,ρ'.G=G'/\ρ'.n=H'.length/\WR T n B0 ρ' F' s fr H' a w':=by
 let ρ':Maps:={ρ with G:=G',n:=H'.length}
 let s:Nat->pV:=λb=>if∃o,H.length<=o/\o<H'.length/\G' o=b then .ml else R b
 have x:Eo F F' ρ.G G' ρ.n H'.length:=by
  refine⟨λb o v D=>?_,by rw[h.hn];exact i.len,λo q=>i.hG o (by rw[<-h.hn];exact q)⟩;exact i.mF b o v (h.ZY D) D
 have t:uz F F' ρ ρ':=⟨x,λ_=>jw _,λ_ _ _=>rfl,λ_=>jw _,λ_ _ _=>rfl⟩
 have f:∀b,b<w.heap.size->s b=R b:=by
  intro b hb;show(if∃o,H.length<=o/\o<H'.length/\G' o=b then pV.ml else R b)=R b;rw[ea];rintro⟨o,h1,p,rfl⟩;have:=i.Kv o h1 p;omega
 have l:∀b,R b≠ .ml->∀o,o<H.length->ρ.G o≠b:=by
  rintro b hb o q rfl;exact hb (h.oB o q)
 refine⟨ρ',s,rfl,rfl,⟨hg,h.size,h.defers,h.env.grow t,rfl,h.lg,h.ag,?_,?_,?_,?_,?_,C9 h.rz i.size⟩⟩
 ·intro d cs I;obtain⟨h1,p,y,vs,ty,r,z⟩:=h.box d cs I;have g:=pR r;exact⟨h1,by rw[f _ g];exact p,y,vs,ty,(i.heap _ g (l _ (by rw[p];simp))).trans r,z.mono λ_ _ _ h=>h.grow t⟩
 ·intro k m J b c sz K;obtain⟨h1,p,y,A,⟨vs,ty,r,z⟩,L⟩:=h.tok k m J b c sz K;have g:=pR r;refine⟨h1,by rw[f _ g];exact p,y,A,⟨vs,ty,(i.heap _ g (l _ (by rw[p];simp))).trans r,z⟩,λj M=>?_⟩;rw[i.hF b j g (l _ (by rw[p];simp))];exact L j M
 ·intro b j v E;rcases sV b w.heap.size with hb|hb
  ·rw[f b hb]
   by_cases u:∃o,o<H.length/\ρ.G o=b
   ·obtain⟨o,q,rfl⟩:=u;rw[h.oB o q];simp
   ·rw[i.hF b j hb λo q e=>u ⟨o,q,e⟩] at E;exact h.rN b j v E
  ·intro d;show(if∃o,H.length<=o/\o<H'.length/\G' o=b then pV.ml else R b)≠ .box d
   split
   ·simp
   ·rw[h.mH b hb];simp
 ·intro o q;rcases sV o H.length with h1|h1
  ·have B:=h.oB o h1
   have g:ρ.G o<w.heap.size:=by
    rcases sV (ρ.G o) w.heap.size with h'|h'
    ·exact h'
    ·rw[h.mH _ h'] at B;cases B
   show s (G' o)=.ml;rw[i.hG o h1,f _ g];exact B
  ·show(if∃o',H.length<=o'/\o'<H'.length/\G' o'=G' o then pV.ml else R (G' o))=.ml;rw[ee ⟨o,h1,q,rfl⟩]
 ·intro b hb;show(if∃o,H.length<=o/\o<H'.length/\G' o=b then pV.ml else R b)=.free;rw[ea]
  ·exact h.mH b (C9 i.size hb)
  ·rintro⟨o,h1,p,rfl⟩;have C:H'[o]?=some H'[o]:=oG p;obtain⟨N,r,_⟩:=hg.ml o _ C;have:=pR r;omega
end
def Gy(E:List Nat)(dst:Option Nat)(v:AV)(K:Fr->eB->Prop)(fr:Fr)(H:eB):Prop:=
 if dst.any E.contains=true then(match v with|.slice _ l=>K (fr.put dst (.zo H.length 0 l.length l.length)) (H++[l.flatMap AV.cells])|_=>False)else K (fr.put dst v) H
def Ry(P:Program)(dst:Option Nat)(s d:TypeId)(x:AV)(K:Fr->eB->Prop)(fr:Fr)(H:eB):Prop:=
 match St P s d x with
 |some v=>K (fr.put dst v) H|none=>match P.underlying s,P.underlying d,x with
  |some .string,some (.slice e),.sc (.string y)=>P.underlying e=some (.int .u8)/\y.size<=nP/\∀cap k,y.size<=cap->K (fr.put dst (.zo H.length 0 y.size cap)) (H++[qO y++FA k])|_,_,_=>False
def sx(P:Program)(T:fh)(E:List Nat)(o:Oper)(K:Fr->eB->Prop)(fr:Fr)(H:eB):Prop:=
 match o.op with
 |.alloc t=>match lG P t with
  |some z=>lr E o.dst z K fr H|none=>False
 |.box _ x=>f_ (ev T fr x)=true/\lr E o.dst (ev T fr x).cells K fr H|.load t x=>match uE P fr H t (ev T fr x)with
  |some v=>K (fr.put o.dst v) H|none=>False
 |.store t x y=>o.dst=none/\nC P t (ev T fr x) (ev T fr y) K fr H|.buildSlice t n ps=>match n9 P t n (ps.toList.map λp=>(p.1,ev T fr p.2))with
  |some v=>Gy E o.dst v K fr H|none=>False
 |.convert s d x=>Ry P o.dst s d (ev T fr x) K fr H|.call c=>match c.callee with
  |.builtin .append=>(nS P T c o.dst K fr H\/Dd P T c o.dst K fr H)\/Dj P T c o.dst K fr H|.builtin _=>match wL P T fr c with
   |some v=>K (fr.put o.dst v) H|none=>False
  |.value f=>ru P T (ev T fr f) (c.args.toList.map λx=>(ev T fr x).norm) H λr H'=>K (fr.put o.dst r) H'|.invoke _ _=>False
 |.makeMap _ none=>HD o.dst K fr H|.mapUpdate t m k x=>o.dst=none/\sQ P t (ev T fr m) (ev T fr k) (ev T fr x) K fr H|.insert t m k x=>o.dst=none/\sQ P t (ev T fr m) (ev T fr k) (ev T fr x) K fr H|.lookup t x i ok=>match uV P H t (ev T fr x) (ev T fr i) ok with
  |some v=>K (fr.put o.dst v) H|none=>False
 |.range t x=>Hu P t (ev T fr x) o.dst K fr H|.next it false=>JZ (ev T fr it) o.dst K fr H|.entry it=>match Ej (ev T fr it) H with
  |some v=>K (fr.put o.dst v) H|none=>False
 |_=>match yq P T fr o with
  |some v=>K (fr.put o.dst v) H|none=>False
def sS(n:Nat)(o:Oper):Bool:=o.dst.all (λd=>decide (d<n))&&o.op.operands.all j_
def yC{n:Nat}{o:Oper}(h:sS n o=true):∀d,o.dst=some d->d<n:=by grind[sS]
def LX{n:Nat}{o:Oper}(h:sS n o=true):o.op.operands.all j_=true:=by grind[sS]
section
variable{P:Program} {T:fh} {n:Nat} {G0:Nat->Nat} {F0:lN} {n0:Nat} {w0:World} {fr:Fr} {H:eB} {a:Act} {w:World}
def J'(w:World){f:FuncId}(h:su P f=true)(args:Array Value):(callFunc f args).run P w=.ok (.enter f args) w:=by
 unfold su at h
 split at h
 ·rename_i fn a;simp only[gO] at h;simp[callFunc,a,h.2]
  grind
 ·cases h
def HY{ρ:Maps}{F:lN}{R:Nat->pV}(h:WR T n w0.heap.size ρ F R fr H a w)(m:Ext w0.heap.size G0 F0 n0 w0 ρ.G F H.length w)(s d:TypeId){e:TypeId}(y:ByteArray)(hs:P.underlying s=some .string)(p:P.underlying d=some (.slice e))
  (he:P.underlying e=some (.int .u8)) (f:y.size<=nP) {dst:Option Nat} (g:∀d,dst=some d->d<n):∃w',(convert s d (.string y)).run P w=.ok (.slice (some ⟨w.heap.size,0,none⟩) y.size (grownCap w y.size 0 e)) w'/\SR T n G0 F0 n0 w0 (fr.put dst (.zo H.length 0 y.size (grownCap w y.size 0 e))) (H++[qO y++FA (grownCap w y.size 0 e-y.size)]) (a.put dst (.slice (some ⟨w.heap.size,0,none⟩) y.size (grownCap w y.size 0 e))) w':=by
 have i:=grownCap_ge w y.size 0 e;have hle:=grownCap_le_maxLen w y.size 0 e (by have:y.size<=1099511627776:=f;simp only[maxLen];omega);refine⟨_,run_bytes_of_string w s d e y hs p he,uF h.drew m.drew (.cells (.inr (jw _)) ?_ ?_) g ?_⟩
 ·have q:(bytesRow y (grownCap w y.size 0 e)).toList=Lib.strCells y++List.replicate (grownCap w y.size 0 e-y.size) (.int .u8 0):=by
   simp[bytesRow,Lib.strCells]
  rw[q];refine .append ?_ ?_
  ·have r:=(vr (F:=F) (G:=ρ.G) (k:=ρ.n) (Lib.strCells y) (λv t=>by obtain⟨b,_,rfl⟩:=oi.1 t;rfl)).uN
   have u:(Lib.strCells y).map AV.sc=qO y:=by simp[Lib.strCells,qO]
   rwa [u] at r
  ·generalize grownCap w y.size 0 e-y.size=k
   induction k with
   |zero=>exact .nil|succ k x=>
    show iC _ (List.replicate (k+1) AV.undef) (List.replicate (k+1) _);exact .cons (.undef rfl) x
 ·intro c hc;rcases tj.1 hc with hc|hc
  ·obtain⟨b,_,rfl⟩:=oi.1 hc;rfl
  ·exact Hw _ c hc
 ·intro ρ' hG j l;have:=ic.zo (F:=F) (G:=ρ'.G) (n:=ρ'.n) (o:=H.length) (off:=0) (len:=y.size) (cap:=grownCap w y.size 0 e) (by rw[l];omega) i hle;rw[j] at this;exact this
def EJ{E:List Nat}{o:Oper}{K:Fr->eB->Prop}{Q:Exit->Act->World->Prop}(S:sS n o=true)(hs:SR T n G0 F0 n0 w0 fr H a w)(h:sx P T E o K fr H):o.wp P a w (λY w'=>∃fr' H',K fr' H'/\SR T n G0 F0 n0 w0 fr' H' Y w') Q:=by
 obtain⟨ρ,F,R,hw,q⟩:=hs;have D:=yC S;have M:=LX S
 have L:∀{v:AV},(∃u,(execOp a.eval o).run P w=.ok (.value u) w/\hQ F ρ v u)->K (fr.put o.dst v) H->o.wp P a w (λY w'=>∃fr' H',K fr' H'/\SR T n G0 F0 n0 w0 fr' H' Y w') Q:=by
  rintro v ⟨u,N,hu⟩ I;unfold Oper.wp;rw[N];exact⟨_,_,I,ρ,F,R,hw.put D hu,q⟩
 have l:∀{s:Sem Value} {u:Value} {w':World},execOp a.eval o=(do pure (.value (<-s)))->s.run P w=.ok u w'->(∃fr' H',K fr' H'/\SR T n G0 F0 n0 w0 fr' H' (a.put o.dst u) w')->o.wp P a w (λY w'=>∃fr' H',K fr' H'/\SR T n G0 F0 n0 w0 fr' H' Y w') Q:=by
  intro s u w' he N I;unfold Oper.wp;rw[he,iz,N];exact I
 obtain⟨dst,op,type,pos,after,guard⟩:=o;simp only at M D;have j:∀x∈op.operands,j_ x=true:=λx q=>I7.1 M x q;unfold sx at h;simp only at h
 split at h
 ·--alloc
  rename_i t
  split at h
  ·rename_i cells ah;obtain⟨z,hz,ai,aj,rfl⟩:=JB ah;have ak:=h
   have al:∀vs,z≠ .tuple vs:=by rintro vs rfl;simp[ofValue,f_] at aj
   obtain⟨Z,an⟩:=Bj ai al;refine l (s:=Instr.alloc t true (.tuple #[])) rfl (N' w hz) ?_;refine EA hw q ak D t ?_ ?_
   ·rw[Z];exact(ri F ρ.G ρ.n _ an).uN.mono λ_ _ _ h=>.p h
   ·rw[Z];intro c V;obtain⟨u,_,rfl⟩:=oi.1 V;exact x' u
  ·exact h.elim
 ·--box
  rename_i t x;obtain⟨h1,h2⟩:=h;have A:=hX hw.env hw.jo x (j x (by simp[Op.operands]));exact l (s:=Instr.box t (a.eval x)) rfl rfl (EA hw q h2 D t (A.cells (iY h1)) (A.w4 (iY h1)))
 ·--load
  rename_i t x
  split at h
  ·rename_i v C;have A:=hX hw.env hw.jo x (j x (by simp[Op.operands]));obtain⟨u,hu,N⟩:=Jk hw C A;exact l (s:=Instr.loadAt t (a.eval x)) rfl hu ⟨_,_,h,ρ,F,R,hw.put D N,q⟩
  ·exact h.elim
 ·--store
  rename_i t x y;obtain⟨J,h⟩:=h;subst J;have A:=hX hw.env hw.jo x (j x (by simp[Op.operands]));have ao:=hX hw.env hw.jo y (j y (by simp[Op.operands]));obtain⟨fr',H',w',b,I,hs⟩:=MF hw q h A ao;unfold Oper.wp;have e:execOp a.eval {dst:=none,op:=.store t x y,type:=type,pos:=pos,after:=after,guard:=guard}=(do Instr.storeAt t (a.eval x) (a.eval y);pure .skip):=rfl;rw[e,iz,b];exact⟨fr',H',I,hs⟩
 ·--buildSlice
  rename_i t k ps
  split at h
  ·rename_i v C;have hp:=Gk hw.env hw.jo ps.toList λp hp=>j p.2 (by simp[Op.operands];exact⟨p.1,by simpa using hp⟩)
   have e:(ps.toList.map λp=>(p.1,a.eval p.2)).toArray=ps.map λp=>(p.1,a.eval p.2):=by rw[<-U8,Yz]
   unfold Gy at h
   split at h
   ·split at h
    ·obtain⟨u,w',b,hs⟩:=Cq hw q C hp D;rw[e] at b;unfold Oper.wp;simp only[execOp,iz,b,kj];exact⟨_,_,h,hs⟩
    ·exact h.elim
   ·obtain⟨u,w',b,hs⟩:=DJ hw q C hp D;rw[e] at b;unfold Oper.wp;simp only[execOp,iz,b,kj];exact⟨_,_,h,hs⟩
  ·exact h.elim
 ·--convert
  rename_i t d x;have A:=hX hw.env hw.jo x (j x (by simp[Op.operands]));unfold Ry at h
  split at h
  ·rename_i v C;refine L (v:=v) (BS w hw.g.Fa hw.env hw.jo M ?_) h;simp only[yq];exact C
  ·split at h
   ·rename_i e y hs aq ar;obtain⟨he,aa,h⟩:=h;rw[ar] at A;have C:=gL A;obtain⟨w',b,au⟩:=HY hw q t d y hs aq he aa D;refine l (s:=convert t d (a.eval x)) rfl (by rw[C];exact b) ⟨_,_,h _ _ (by simpa using grownCap_ge w y.size 0 e),au⟩
   ·exact h.elim
 ·--call
  rename_i c;obtain⟨callee,args,argTypes⟩:=c;have B:∀x∈args.toList,j_ x=true:=λx q=>j x (by simp[Op.operands,Call.operands,yi.1 q])
  split at h
  ·--append
   rename_i V;simp only at V;subst V;obtain⟨u,w',fr',H',b,I,hs⟩:=h.elim (λh=>h.elim (λh=>Ls (ty:=type) hw q h D B) (λh=>H_ (ty:=type) hw q h D B)) (λh=>Ii (ty:=type) hw q h D B);unfold Oper.wp execOp;simp only[resolve,invoke,builtin,iz,pt,kj];rw[b];exact⟨fr',H',I,hs⟩
  ·--ab builtin
   split at h
   ·rename_i v C;refine L (v:=v) (BS w hw.g.Fa hw.env hw.jo M ?_) h;simp only[yq];exact C
   ·exact h.elim
  ·--a U value
   rename_i f V;simp only at V;subst V;unfold ru at h;have ad:=hX hw.env hw.jo f (j f (by simp[Op.operands,Call.operands]))
   split at h
   ·rename_i g first cap hf
    rw[hf] at ad;obtain⟨vf,vc,C,aw,ax⟩:=AD ad;obtain⟨ae,W⟩:=h;have O:=HH hw.env hw.jo args.toList B
    have X:hV F ρ.G H.length (first++(args.toList.map λx=>(ev T fr x).norm)++cap) (vf++args.toList.map a.eval++vc):=by
     rw[<-hw.hn];exact((hV.pQ aw).append O).append (.pQ ax)
    have hC:=W ρ.G F w _ hw.g X;unfold Oper.wp
    have e:(execOp a.eval {dst:=dst,op:=.call {callee:=.value f,args:=args,argTypes:=argTypes},type:=type,pos:=pos,after:=after,guard:=guard}).run P w=.ok (.enter g (vf++args.toList.map a.eval++vc).toArray) w:=by
     simp only[execOp,resolve,iz];rw[C];simp only[Deferred.ofValue,pt,kj,invoke];rw[J' w ae]
     congr 2
     apply FE.1;simp
    rw[e];show Calls P g _ w _;refine hC.mono ?_;rintro e' w' ⟨r,H',v,G',F',I,rfl,ay,az,af⟩;obtain⟨ρ',R',hG,aA,aB⟩:=hw.called ay af;refine⟨_,_,I,ρ',F',R',aB.put D (.p ?_),?_⟩
    ·rw[hG,aA];exact az
    ·rw[hG];exact q.trans (af.mono hw.rz)
   ·exact h.elim
  ·exact h.elim
 ·--makeMap
  obtain⟨v,w',b,hs⟩:=IL (P:=P) hw q D;exact l (s:=Instr.makeMap _ none) rfl b ⟨_,_,h,hs⟩
 ·--mapUpdate
  rename_i t m k x;obtain⟨J,h⟩:=h;subst J;obtain⟨fr',H',w',b,I,hs⟩:=C_ hw q h (hX hw.env hw.jo m (j m (by simp[Op.operands]))) (hX hw.env hw.jo k (j k (by simp[Op.operands]))) (hX hw.env hw.jo x (j x (by simp[Op.operands])));unfold Oper.wp;have e:execOp a.eval {dst:=none,op:=.mapUpdate t m k x,type:=type,pos:=pos,after:=after,guard:=guard}=(do Instr.mapUpdate t (a.eval m) (a.eval k) (a.eval x);pure .skip):=rfl;rw[e,iz,b];exact⟨fr',H',I,hs⟩
 ·--insert
  rename_i t m k x;obtain⟨J,h⟩:=h;subst J;obtain⟨fr',H',w',b,I,hs⟩:=C_ hw q h (hX hw.env hw.jo m (j m (by simp[Op.operands]))) (hX hw.env hw.jo k (j k (by simp[Op.operands]))) (hX hw.env hw.jo x (j x (by simp[Op.operands])));unfold Oper.wp;have e:execOp a.eval {dst:=none,op:=.insert t m k x,type:=type,pos:=pos,after:=after,guard:=guard}=(do Instr.mapUpdate t (a.eval m) (a.eval k) (a.eval x);pure .skip):=rfl;rw[e,iz,b];exact⟨fr',H',I,hs⟩
 ·--lookup
  rename_i t x i ok
  split at h
  ·rename_i v C;obtain⟨u,hu,N⟩:=LL hw C (hX hw.env hw.jo x (j x (by simp[Op.operands]))) (hX hw.env hw.jo i (j i (by simp[Op.operands])));exact l (s:=Instr.lookup t (a.eval x) (a.eval i) ok) rfl hu ⟨_,_,h,ρ,F,R,hw.put D N,q⟩
  ·exact h.elim
 ·--range
  rename_i t x;obtain⟨v,w',fr',H',b,I,hs⟩:=Nc hw q h D (hX hw.env hw.jo x (j x (by simp[Op.operands])));exact l (s:=Instr.range t (a.eval x)) rfl b ⟨_,_,I,hs⟩
 ·--next
  rename_i it;obtain⟨v,w',fr',H',b,I,hs⟩:=Oy hw q type h D (hX hw.env hw.jo it (j it (by simp[Op.operands])));exact l (s:=Instr.next (a.eval it) false type) rfl b ⟨_,_,I,hs⟩
 ·--entry
  rename_i it
  split at h
  ·rename_i v C;obtain⟨u,hu,N⟩:=Oz (P:=P) hw C (hX hw.env hw.jo it (j it (by simp[Op.operands])));exact l (s:=Instr.entry (a.eval it)) rfl hu ⟨_,_,h,ρ,F,R,hw.put D N,q⟩
  ·exact h.elim
 ·--all others only compute
  split at h
  ·rename_i v C;exact L (v:=v) (BS w hw.g.Fa hw.env hw.jo M C) h
  ·exact h.elim
end
end Go.nd
namespace Go.nd
open Go
def Cm(P:Program)(T:fh)(E:List Nat)(ops:Array Oper)(o:Oper)(K:Fr->eB->Prop)(fr:Fr)(H:eB):Prop:=
 match o.guard with
 |none=>sx P T E o K fr H|some (j,want)=>
  match(ops[j]?).bind (·.dst)with
  |some d=>
   match fr.env d with
   |.sc (.bool b)=>if b=want then sx P T E o K fr H else K (fr.put o.dst (.tuple [])) H|.tuple _=>K (fr.put o.dst (.tuple [])) H|_=>False
  |none=>False
def ju(P:Program)(T:fh)(E:List Nat)(ops:Array Oper):List Oper->(Fr->eB->Prop)->Fr->eB->Prop
 |[],K,fr,H=>K fr H|o::rest,K,fr,H=>Cm P T E ops o (λfr H=>ju P T E ops rest K fr H) fr H
def yo(n:Nat)(ops:Array Oper):Bool:=ops.all (sS n)
section
variable{P:Program} {T:fh} {n:Nat} {G0:Nat->Nat} {F0:lN} {n0:Nat} {w0:World} {fr:Fr} {H:eB} {a:Act} {w:World}
def E2{F:lN}{ρ:Maps}:hQ F ρ (.tuple []) undef:=.p (.tuple (vs:=[]) .nil)
theorem SR.put(hs:SR T n G0 F0 n0 w0 fr H a w){d:Option Nat}(c:∀b,d=some b->b<n):SR T n G0 F0 n0 w0 (fr.put d (.tuple [])) H (a.put d undef) w:=by
 obtain⟨ρ,F,R,hw,e⟩:=hs;exact⟨ρ,F,R,hw.put c E2,e⟩
def OT(hs:SR T n G0 F0 n0 w0 fr H a w){ops:Array Oper}{j d:Nat}{b:Bool}(f:(ops[j]?).bind (·.dst)=some d)(he:fr.env d=.sc (.bool b)):yielded ops a.tmps j=some b:=by
 obtain⟨ρ,F,R,hw,g⟩:=hs;have h:=hw.env d;rw[he] at h;have c:=gL h;unfold yielded;cases e:a.tmps[d]?with
 |none=>rw[RO,e] at c;cases c
 |some v=>simp_all
def IB(hs:SR T n G0 F0 n0 w0 fr H a w){ops:Array Oper}{j d:Nat}{l:List AV}(b:(ops[j]?).bind (·.dst)=some d)(he:fr.env d=.tuple l):yielded ops a.tmps j=none:=by
 obtain⟨ρ,F,R,hw,e⟩:=hs;have h:=hw.env d;rw[he] at h;unfold yielded;rw[b];simp only[Option.bind_some];cases c:a.tmps[d]?with
 |none=>rfl|some v=>
  rw[RO,c] at h;cases h with
  |cell h=>cases h with|p h=>cases h;rfl
def ED{E:List Nat}{ops:Array Oper}{i:Nat}{o:Oper}{K:Fr->eB->Prop}{Q:Exit->Act->World->Prop}(hi:ops[i]?=some o)(c:sS n o=true)(hs:SR T n G0 F0 n0 w0 fr H a w)
  (h:Cm P T E ops o K fr H) {N:Act->World->Prop} (g:∀fr' H' f w',K fr' H'->SR T n G0 F0 n0 w0 fr' H' f w'->N f w'):wpOp P ops Q i N a w:=by
 unfold wpOp;simp only[hi];unfold Cm at h
 split at h
 ·rename_i hg;rw[ee (by simp[Region.wanted,hg])];exact .inl (Oper.wp_mono (λf w' ⟨fr',H',k,e⟩=>g fr' H' f w' k e) (EJ c hs h))
 ·rename_i j want hg
  split at h
  ·rename_i d p
   split at h
   ·rename_i b he;have hy:=OT hs p he
    split at h
    ·rename_i m;rw[ee (by simp[Region.wanted,hg,hy,m])];exact .inl (Oper.wp_mono (λf w' ⟨fr',H',k,e⟩=>g fr' H' f w' k e) (EJ c hs h))
    ·rename_i m;rw[ea (by simp[Region.wanted,hg,hy,m])];exact g _ _ _ _ h (hs.put (yC c))
   ·rename_i l he;have hy:=IB hs p he;rw[ea (by simp[Region.wanted,hg,hy])];exact g _ _ _ _ h (hs.put (yC c))
   ·exact h.elim
  ·exact h.elim
def NH{E:List Nat}{ops:Array Oper}{K:Fr->eB->Prop}{Q:Exit->Act->World->Prop}(b:yo n ops=true)
  (g:∀fr' H' f w',K fr' H'->SR T n G0 F0 n0 w0 fr' H' f w'->Q .normal f w'):∀(l:List Oper) (k:Nat) (fr:Fr) (H:eB) (a:Act) (w:World),l=ops.toList.drop k->SR T n G0 F0 n0 w0 fr H a w->ju P T E ops l K fr H->wpOps P ops Q (List.range' k l.length) a w:=by
 intro l
 induction l with
 |nil=>
  intro k fr H a w c hs h;simp only[wv,List.range'_zero,wpOps];exact g _ _ _ _ h hs
 |cons o l j=>
  intro k fr H a w c hs h
  have d:k<ops.toList.length:=by
   rcases sV k ops.toList.length with h'|h'
   ·exact h'
   ·rw[Iz h'] at c;cases c
  have i:=Kq d;rw[i] at c;injection c with m p
  have hi:ops[k]?=some o:=by grind
  simp only[l5,Xv];rw[wpOps_cons];have e:sS n o=true:=I7.1 b o (OX hi);refine ED hi e hs h ?_
  grind
end
def gJ(P:Program)(T:fh)(n:Nat)(c:Code)(Q:Exit->Fr->eB->Prop)(fr:Fr)(H:eB):Prop:=
 ∀G0 F0 n0 w0 a w,SR T n G0 F0 n0 w0 fr H a w->c.wp P (λe b w'=>∃fr' H',Q e fr' H'/\SR T n G0 F0 n0 w0 fr' H' b w') a w
def F5(K:Fr->eB->Prop)(Q:Exit->Fr->eB->Prop):Exit->Fr->eB->Prop
 |.normal,fr,H=>K fr H|e,fr,H=>Q e fr H
def HE(id:Nat)(Q:Exit->Fr->eB->Prop):Exit->Fr->eB->Prop
 |.exit a,fr,H=>if a=id then Q .normal fr H else Q (.exit a) fr H|e,fr,H=>Q e fr H
section
variable{P:Program} {T:fh} {n:Nat} {Q Q':Exit->Fr->eB->Prop} {fr:Fr} {H:eB}
theorem gJ.mono{c:Code}(h:gJ P T n c Q fr H)(b:∀e fr H,Q e fr H->Q' e fr H):gJ P T n c Q' fr H:=
 λG0 F0 n0 w0 a w hs=>wp_mono (h G0 F0 n0 w0 a w hs) λ_ _ _ ⟨fr',H',d,f⟩=>⟨fr',H',b _ _ _ d,f⟩
def gJ.skip(h:Q .normal fr H):gJ P T n .skip Q fr H:=λ_ _ _ _ _ _ hs=>wp_skip ⟨_,_,h,hs⟩
def gJ.label{l:Nat}(h:Q .normal fr H):gJ P T n (.label l) Q fr H:=λ_ _ _ _ _ _ hs=>wp_label ⟨_,_,h,hs⟩
def gJ.scope{c:Code}(h:gJ P T n c (λe fr H=>(match e with|.goto _=>False|_=>True)/\Q e fr H) fr H):gJ P T n (.scope c) Q fr H:=
 λG0 F0 n0 w0 a w hs=>wp_scope_straight (wp_mono (h G0 F0 n0 w0 a w hs) λe _ _ ⟨fr',H',b,d⟩=>by
  cases e<;>first|exact b.1.elim|exact⟨fr',H',b.2,d⟩)
def gJ.exit{id:Nat}(h:Q (.exit id) fr H):gJ P T n (.exit id) Q fr H:=λ_ _ _ _ _ _ hs=>wp_exit ⟨_,_,h,hs⟩
def gJ.ret(h:Q .ret fr H):gJ P T n .ret Q fr H:=λ_ _ _ _ _ _ hs=>wp_ret ⟨_,_,h,hs⟩
def gJ.seq{x y:Code}(h:gJ P T n x (F5 (gJ P T n y Q) Q) fr H):gJ P T n (.seq x y) Q fr H:=by
 intro G0 F0 n0 w0 a w hs;refine wp_seq (wp_mono (h G0 F0 n0 w0 a w hs) ?_);rintro e d w' ⟨fr',H',b,c⟩
 cases e<;>first|exact b G0 F0 n0 w0 d w' c|exact⟨fr',H',b,c⟩
def gJ.cond{c:Operand}{x y:Code}{t:Bool}(d:ev T fr c=.sc (.bool t))(f:j_ c=true)(g:t=true->gJ P T n x Q fr H)(i:t=false->gJ P T n y Q fr H):gJ P T n (.cond c x y) Q fr H:=by
 intro G0 F0 n0 w0 a w hs;have b:=hs;obtain⟨ρ,F,R,hw,j⟩:=b;have h:=hX hw.env hw.jo c f;rw[d] at h;exact wp_cond_split (gL h) (λe=>g e G0 F0 n0 w0 a w hs) (λe=>i e G0 F0 n0 w0 a w hs)
def gJ.block{id:Nat}{c:Code}(h:gJ P T n c (HE id Q) fr H):gJ P T n (.block id c) Q fr H:=by
 intro G0 F0 n0 w0 a w hs;refine wp_block (wp_mono (h G0 F0 n0 w0 a w hs) ?_);rintro e g w' ⟨fr',H',b,d⟩;cases e with
 |exit f=>
  simp only[HE,Exit.inBlock] at b|-
  grind
 |_=>exact⟨fr',H',b,d⟩
def gJ.region{id:Nat}{ops:Array Oper}(E:List Nat)(b:yo n ops=true)(h:ju P T E ops ops.toList (Q .normal) fr H):gJ P T n (.region id ops false) Q fr H:=by
 intro G0 F0 n0 w0 a w hs;refine wp_region ?_;have:=NH (Q:=λe c w'=>∃fr' H',Q e fr' H'/\SR T n G0 F0 n0 w0 fr' H' c w') b (λfr' H' c w' d f=>⟨fr',H',d,f⟩) ops.toList 0 fr H a w (by simp) hs h;rw[Xw]
 grind
def WT(P:Program)(T:fh)(n:Nat)(c:Code)(Q:Exit->Fr->eB->Prop)(fr:Fr)(H:eB):Prop:=
 ∀G0 F0 n0 w0 a w,SR T n G0 F0 n0 w0 fr H a w->∀(b:Frame) (k:List Item) (cs:List Frame),∃e d w',(∃fr' H',Q e fr' H'/\SR T n G0 F0 n0 w0 fr' H' d w')/\Arrives P (lone (b.at a (.code c::.inLoop c::k)) cs w) b k cs e d w'
def gJ.loop{c:Code}(h:WT P T n c Q fr H):gJ P T n (.loop c) Q fr H:=by
 intro G0 F0 n0 w0 a w hs b k cs;obtain⟨e,f,w',g,d⟩:=h G0 F0 n0 w0 a w hs b k cs;exact⟨e,f,w',g,.of_steps (.one step_loop) d⟩
theorem WT.round{c:Code}(h:gJ P T n c (F5 (WT P T n c Q) Q) fr H):WT P T n c Q fr H:=by
 intro G0 F0 n0 w0 a w hs b k cs;obtain⟨e,i,j,⟨fr',H',g,o⟩,d⟩:=h G0 F0 n0 w0 a w hs b (.inLoop c::k) cs
 have pass:∀e,e≠ .normal->Q e fr' H'->Arrives P (lone (b.at a (.code c::.inLoop c::k)) cs w) b (.inLoop c::k) cs e i j->∃e p w',(∃fr' H',Q e fr' H'/\SR T n G0 F0 n0 w0 fr' H' p w')/\Arrives P (lone (b.at a (.code c::.inLoop c::k)) cs w) b k cs e p w':=by
  intro e he q d;exact⟨e,i,j,⟨fr',H',q,o⟩,.pass (x:=.inLoop c) rfl (λ_ _=>.inl he) d⟩
 cases e with
 |normal=>
  have r:WT P T n c Q fr' H':=g;obtain⟨s,t,u,m,f⟩:=r G0 F0 n0 w0 i j o b k cs;exact⟨s,t,u,m,.of_steps (Steps.trans d (.one step_inLoop)) f⟩
 |exit id=>exact pass _ (by simp) g d|goto l=>exact pass _ (by simp) g d|ret=>exact pass _ (by simp) g d|panic v=>exact pass _ (by simp) g d|outgrown=>exact pass _ (by simp) g d
end
def fr0(args:List AV):Fr:={env:=λt=>args.getD t (.tuple []),box:=λ_=>none,gen:=λ_=>0,tY:=λ_=>none,fP:=λ_=>0}
def Ie(P:Program)(fr:Fr)(H:eB):List ResultVar->Option (List AV)
 |[]=>some []|.tmp t::rest=>(Ie P fr H rest).map ((fr.env t).norm:: ·)|.cell a t::rest=>(uE P fr H t (fr.env a)).bind λv=>(Ie P fr H rest).map (v.norm:: ·)
def vo:List AV->AV
 |[x]=>x|l=>.tuple l
def vR(P:Program)(rs:List ResultVar)(Post:AV->eB->Prop):Exit->Fr->eB->Prop
 |.normal,fr,H|.ret,fr,H=>match Ie P fr H rs with
  |some l=>Post (vo l) H|none=>False
 |_,_,_=>False
section
variable{P:Program} {T:fh} {n:Nat} {fr:Fr} {H:eB} {a:Act} {w:World}
def Ro(tmps:Array Value)(x:ResultVar):Sem Value:=
 match x with
 |.tmp t=>pure (tmps.getD t undef)|.cell a t=>do loadVar t (<-asAddr (tmps.getD a undef))
def Du{t:TypeId}{u v:Value}(h:(Instr.loadAt t u).run P w=.ok v w):(do loadVar t (<-asAddr u)).run P w=.ok v w:=by
 unfold Instr.loadAt at h;cases u with
 |pointer p=>
  cases p with
  |none=>simp[Instr.sureAddr,iz,stuck,Sem.run,Result.andThen] at h
  |some a=>exact h
 |_=>simp[Instr.sureAddr,iz,stuck,Sem.run,Result.andThen] at h
def SY{ρ:Maps}{F:lN}{R:Nat->pV}{B0:Nat}(h:WR T n B0 ρ F R fr H a w):∀(rs:List ResultVar) (l:List AV),Ie P fr H rs=some l->∃vs:List Value,(rs.mapM (Ro a.tmps)).run P w=.ok vs w/\hV F ρ.G ρ.n l vs:=by
 intro rs
 induction rs with
 |nil=>intro l b;simp[Ie] at b;subst b;exact⟨[],rfl,.nil⟩
 |cons r rs k=>
  intro l b;cases r with
  |tmp t=>
   simp only[Ie,Xl] at b;obtain⟨c,d,rfl⟩:=b;obtain⟨vs,f,g⟩:=k c d;refine⟨a.tmps.getD t undef::vs,?_,.cons (h.env t).norm g⟩;simp only[aaa,iz,Ro,pt,kj,f]
  |cell i t=>
   simp only[Ie,Vi,Xl] at b;obtain⟨v,m,c,d,rfl⟩:=b;obtain⟨vs,f,g⟩:=k c d;obtain⟨u,hu,o⟩:=Jk h m (h.env i);refine⟨u::vs,?_,.cons o.norm g⟩;have j:=Du hu;simp only[aaa];rw[iz];have e:(Ro a.tmps (.cell i t))=(do loadVar t (<-asAddr (a.tmps.getD i undef))):=rfl;rw[e,j,kj,iz,f];rfl
def Mf{ρ:Maps}{F:lN}{R:Nat->pV}{B0:Nat}(h:WR T n B0 ρ F R fr H a w){fn:Func}{l:List AV}(c:Ie P fr H fn.results.toList=some l):∃v,(results fn a.tmps).run P w=.ok v w/\ic F ρ.G ρ.n (vo l) v:=by
 obtain⟨vs,d,f⟩:=SY (P:=P) h _ _ c
 have e:results fn a.tmps=(do
   let vs<-fn.results.mapM (Ro a.tmps)
   pure (if h:vs.size=1 then vs[0] else .tuple vs)):=rfl
 have hm:(fn.results.mapM (Ro a.tmps)).run P w=.ok vs.toArray w:=by
  rw[NG,run_map,d];rfl
 rw[e,iz,hm,kj,pt];refine⟨_,rfl,?_⟩;cases f with
 |nil=>exact .tuple (vs:=[]) .nil|cons b g=>
  cases g with
  |nil=>exact b|cons i j=>
   have:=ic.tuple (.cons b (.cons i j));simpa[vo] using this
open Classical in
def fQ.intro{f:FuncId}{fn:Func}{c:Code}{args:List AV}{Post:AV->eB->Prop}(K:P.funcs[f]?=some fn)(M:fn.body=some c)(q:su P f=true)(hlen:args.length<=fn.ntmps)
  (h:gJ P T fn.ntmps c (vR P fn.results.toList Post) (fr0 args) H):fQ P T f args H Post:=by
 refine⟨q,λG F w vs hg E=>?_⟩;refine calls_of_wp K M ?_;have s:args.length=vs.length:=E.length
 let ρ:Maps:={G:=G,n:=H.length,L:=λ_ _=>0,lg:=λ_=>0,A:=λ_ _=>none,ag:=λ_=>0}
 let R:Nat->pV:=λb=>if∃o,o<H.length/\G o=b then .ml else .free
 have hw:WR T fn.ntmps w.heap.size ρ F R (fr0 args) H {tmps:=vs.toArray++Array.replicate (fn.ntmps-vs.toArray.size) undef,defers:=[]} w:=by
  refine⟨hg,?_,rfl,?_,rfl,λ_=>rfl,λ_=>rfl,?_,?_,?_,?_,?_,jw _⟩
  ·simp only[Array.size_append,aa3,Array.size_replicate];omega
  ·intro t;show hQ F ρ (args.getD t (.tuple [])) _;rcases sV t args.length with ht|ht
   ·obtain⟨v,x,y⟩:=E.get (oG ht)
    have z:args.getD t (.tuple [])=args[t]:=by simp[ht]
    have B:(vs.toArray++Array.replicate (fn.ntmps-vs.toArray.size) undef).getD t undef=v:=by
     rw[RO,Array.getElem?_append_left (by simpa[<-s] using ht)];simp[x]
    rw[z,B];exact .p y
   ·have z:args.getD t (.tuple [])=.tuple []:=by simp[X2 ht]
    have B:(vs.toArray++Array.replicate (fn.ntmps-vs.toArray.size) undef).getD t undef=undef:=by
     rw[RO,Array.getElem?_append_right (by simpa[<-s] using ht),Array.getElem?_replicate]
     split<;>rfl
    rw[z,B];exact E2
  ·intro d cs N;cases N
  ·intro k m O;cases O
  ·intro b j v x d;show(if∃o,o<H.length/\G o=b then pV.ml else .free)≠ .box d
   split<;>simp
  ·intro o C;show(if∃o',o'<H.length/\G o'=G o then pV.ml else .free)=.ml;rw[ee ⟨o,C,rfl⟩]
  ·intro b Q;show(if∃o,o<H.length/\G o=b then pV.ml else .free)=.free;rw[ea];rintro⟨o,C,rfl⟩;obtain⟨V,S,_⟩:=hg.ml o _ (oG C);have:=pR S;omega
 refine wp_mono (h G F H.length w _ w ⟨ρ,F,R,hw,Ext.refl⟩) ?_;rintro e I w' ⟨fr',H',a,ρ',F',W,i,D⟩
 have key:∀{l:List AV},Ie P fr' H' fn.results.toList=some l->Post (vo l) H'->I.defers=[]/\∃v,(results fn I.tmps).run P w'=.ok v w'/\∃r H' J G' F',Post r H'/\Ending.returned v=.returned J/\GW T G' F' H' w'/\ic F' G' H'.length r J/\Ext w.heap.size G F H.length w G' F' H'.length w':=by
  intro l u U;obtain⟨v,x,y⟩:=Mf i u;rw[i.hn] at y;exact⟨i.defers,v,x,_,_,v,_,_,U,rfl,i.g,y,D⟩
 cases e with
 |normal=>
  simp only[vR] at a
  split at a
  ·rename_i l u;exact key u a
  ·exact a.elim
 |ret=>
  simp only[vR] at a
  split at a
  ·rename_i l u;exact key u a
  ·exact a.elim
 |_=>exact a.elim
end
end Go.nd
