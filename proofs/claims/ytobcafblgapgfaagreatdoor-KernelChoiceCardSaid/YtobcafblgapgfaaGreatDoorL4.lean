/- Part of the proof of KernelChoice: layer. -/
import Derived.Laws.IdiomStrings
import Derived.Scope
import Derived.Test.YtobcafblgapgfaaGreatDoorL3
set_option linter.all false
namespace Go.ky
open Go
def rh(P:Program)(f:FuncId):Bool:=
 match P.funcs[f]?with
 |some fn=>fn.body.isSome&&fn.name != "runtime.NumGoroutine"
 |none=>false
def ej(P:Program)(T:dA)(f:FuncId)(args:List AV)(H:cV)(Post:AV->cV->Prop):Prop:=
 rh P f=true/\∀(G:Nat->Nat) (F:jH) (w:World) (vs:List Value),GW T G F H w->fC F G H.length args vs->Calls P f vs.toArray w λe w'=>∃r H' v G' F',Post r H'/\e=.returned v/\GW T G' F' H' w'/\fB F' G' H'.length r v/\Ext w.heap.size G F H.length w G' F' H'.length w'
def dy(P:Program)(T:dA)(f:FuncId)(args:List AV)(H:cV)(r:AV)(H':cV):Prop:=ej P T f args H λb a=>b=r/\a=H'
def ej.mono{P:Program}{T:dA}{f:FuncId}{args:List AV}{H:cV}{Post Post':AV->cV->Prop}(h:ej P T f args H Post)(a:∀r H',Post r H'->Post' r H'):ej P T f args H Post':=
 ⟨h.1,λG F w vs hg b=>(h.2 G F w vs hg b).mono λ_ _ ⟨r,H',v,G',F',c,d⟩=>⟨r,H',v,G',F',a _ _ c,d⟩⟩
def dy.post{P:Program}{T:dA}{f:FuncId}{args:List AV}{H H':cV}{r:AV}{Post:AV->cV->Prop}(h:dy P T f args H r H')(a:Post r H'):ej P T f args H Post:=
 ej.mono h λe b ⟨c,d⟩=>by subst c;subst d;exact a
def oF(P:Program)(T:dA)(a:AV)(args:List AV)(H:cV)(Post:AV->cV->Prop):Prop:=
 match a with
 |.func (.func g) first cap=>ej P T g (first++args++cap) H Post
 |_=>False
section
variable{P:Program} {T:dA} {n:Nat} {G0:Nat->Nat} {F0:jH} {n0:Nat} {w0:World} {fr:Fr} {H:cV} {a:Act} {w:World}
open Classical in
def WR.called{ρ:Maps}{F:jH}{R:Nat->mU}{B0:Nat}(h:WR T n B0 ρ F R fr H a w){G':Nat->Nat}{F':jH}{H':cV}{w':World}(hg:GW T G' F' H' w')
  (i:Ext w.heap.size ρ.G F H.length w G' F' H'.length w'):∃ρ' s,ρ'.G=G'/\ρ'.n=H'.length/\WR T n B0 ρ' F' s fr H' a w':=by
 let ρ':Maps:={ρ with G:=G',n:=H'.length}
 let s:Nat->mU:=λb=>if∃o,H.length<=o/\o<H'.length/\G' o=b then .ka else R b
 have x:Ca F F' ρ.G G' ρ.n H'.length:=by
  refine⟨λb o v D=>?_,by rw[h.hn];exact i.len,λo q=>i.hG o (by rw[<-h.hn];exact q)⟩;exact i.mF b o v (h.XT D) D
 have t:ta F F' ρ ρ':=⟨x,λ_=>hO _,λ_ _ _=>rfl,λ_=>hO _,λ_ _ _=>rfl⟩
 have f:∀b,b<w.heap.size->s b=R b:=by
  intro b hb;show(if∃o,H.length<=o/\o<H'.length/\G' o=b then mU.ka else R b)=R b;rw[cB];rintro⟨o,h1,p,rfl⟩;have:=i.Hi o h1 p;omega
 have l:∀b,R b≠ .ka->∀o,o<H.length->ρ.G o≠b:=by
  rintro b hb o q rfl;exact hb (h.nZ o q)
 refine⟨ρ',s,rfl,rfl,⟨hg,h.size,h.defers,h.env.grow t,rfl,h.lg,h.ag,?_,?_,?_,?_,?_,Av h.p5 i.size⟩⟩
 ·intro d cs I;obtain⟨h1,p,y,vs,ty,r,z⟩:=h.box d cs I;have g:=nF r;exact⟨h1,by rw[f _ g];exact p,y,vs,ty,(i.heap _ g (l _ (by rw[p];simp))).trans r,z.mono λ_ _ _ h=>h.grow t⟩
 ·intro k m J b c sz K;obtain⟨h1,p,y,A,⟨vs,ty,r,z⟩,L⟩:=h.tok k m J b c sz K;have g:=nF r;refine⟨h1,by rw[f _ g];exact p,y,A,⟨vs,ty,(i.heap _ g (l _ (by rw[p];simp))).trans r,z⟩,λj M=>?_⟩;rw[i.hF b j g (l _ (by rw[p];simp))];exact L j M
 ·intro b j v E;rcases p4 b w.heap.size with hb|hb
  ·rw[f b hb]
   by_cases u:∃o,o<H.length/\ρ.G o=b
   ·obtain⟨o,q,rfl⟩:=u;rw[h.nZ o q];simp
   ·rw[i.hF b j hb λo q e=>u ⟨o,q,e⟩] at E;exact h.qK b j v E
  ·intro d;show(if∃o,H.length<=o/\o<H'.length/\G' o=b then mU.ka else R b)≠ .box d
   split
   ·simp
   ·rw[h.lz b hb];simp
 ·intro o q;rcases p4 o H.length with h1|h1
  ·have B:=h.nZ o h1
   have g:ρ.G o<w.heap.size:=by
    rcases p4 (ρ.G o) w.heap.size with h'|h'
    ·exact h'
    ·rw[h.lz _ h'] at B;cases B
   show s (G' o)=.ka;rw[i.hG o h1,f _ g];exact B
  ·show(if∃o',H.length<=o'/\o'<H'.length/\G' o'=G' o then mU.ka else R (G' o))=.ka;rw[cG ⟨o,h1,q,rfl⟩]
 ·intro b hb;show(if∃o,H.length<=o/\o<H'.length/\G' o=b then mU.ka else R b)=.free;rw[cB]
  ·exact h.lz b (Av i.size hb)
  ·rintro⟨o,h1,p,rfl⟩;have C:H'[o]?=some H'[o]:=na p;obtain⟨N,r,_⟩:=hg.ka o _ C;have:=nF r;omega
end
def CJ(E:List Nat)(dst:Option Nat)(v:AV)(K:Fr->cV->Prop)(fr:Fr)(H:cV):Prop:=
 if dst.any E.contains=true then(match v with|.slice _ l=>K (fr.put dst (.yx H.length 0 l.length l.length)) (H++[l.flatMap AV.cells])|_=>False)else K (fr.put dst v) H
def Le(P:Program)(dst:Option Nat)(s d:TypeId)(x:AV)(K:Fr->cV->Prop)(fr:Fr)(H:cV):Prop:=
 match Lh P s d x with
 |some v=>K (fr.put dst v) H|none=>match P.underlying s,P.underlying d,x with
  |some .string,some (.slice e),.sc (.string y)=>P.underlying e=some (.int .u8)/\y.size<=kM/\∀cap k,y.size<=cap->K (fr.put dst (.yx H.length 0 y.size cap)) (H++[lH y++Dd k])|_,_,_=>False
def p7(P:Program)(T:dA)(E:List Nat)(o:Oper)(K:Fr->cV->Prop)(fr:Fr)(H:cV):Prop:=
 match o.op with
 |.alloc t=>match jM P t with
  |some z=>jx E o.dst z K fr H|none=>False
 |.box _ x=>ek (ev T fr x)=true/\jx E o.dst (ev T fr x).cells K fr H|.load t x=>match tZ P fr H t (ev T fr x)with
  |some v=>K (fr.put o.dst v) H|none=>False
 |.store t x y=>o.dst=none/\lA P t (ev T fr x) (ev T fr y) K fr H|.buildSlice t n ps=>match k1 P t n (ps.toList.map λp=>(p.1,ev T fr p.2))with
  |some v=>CJ E o.dst v K fr H|none=>False
 |.convert s d x=>Le P o.dst s d (ev T fr x) K fr H|.call c=>match c.callee with
  |.builtin .append=>(lk P T c o.dst K fr H\/zM P T c o.dst K fr H)\/zK P T c o.dst K fr H|.builtin _=>match sN P T fr c with
   |some v=>K (fr.put o.dst v) H|none=>False
  |.value f=>oF P T (ev T fr f) (c.args.toList.map λx=>(ev T fr x).norm) H λr H'=>K (fr.put o.dst r) H'|.invoke _ _=>False
 |.makeMap _ none=>Di o.dst K fr H|.mapUpdate t m k x=>o.dst=none/\sO P t (ev T fr m) (ev T fr k) (ev T fr x) K fr H|.insert t m k x=>o.dst=none/\sO P t (ev T fr m) (ev T fr k) (ev T fr x) K fr H|.lookup t x i ok=>match re P H t (ev T fr x) (ev T fr i) ok with
  |some v=>K (fr.put o.dst v) H|none=>False
 |.range t x=>GQ P t (ev T fr x) o.dst K fr H|.next it false=>KS (ev T fr it) o.dst K fr H|.entry it=>match Hl (ev T fr it) H with
  |some v=>K (fr.put o.dst v) H|none=>False
 |_=>match uH P T fr o with
  |some v=>K (fr.put o.dst v) H|none=>False
def pK(n:Nat)(o:Oper):Bool:=o.dst.all (λd=>decide (d<n))&&o.op.operands.all ic
def u9{n:Nat}{o:Oper}(h:pK n o=true):∀d,o.dst=some d->d<n:=by
 intro d a;simp only[pK,eJ] at h;rw[a] at h;simpa using h.1
def H6{n:Nat}{o:Oper}(h:pK n o=true):o.op.operands.all ic=true:=by
 simp only[pK,eJ] at h;exact h.2
section
variable{P:Program} {T:dA} {n:Nat} {G0:Nat->Nat} {F0:jH} {n0:Nat} {w0:World} {fr:Fr} {H:cV} {a:Act} {w:World}
def GU(w:World){f:FuncId}(h:rh P f=true)(args:Array Value):(callFunc f args).run P w=.ok (.enter f args) w:=by
 unfold rh at h
 split at h
 ·rename_i fn b;simp only[eJ,bne_iff_ne,ne_eq] at h;simp[callFunc,program,Sem.run,b,h.2];intro a;rw[a] at h;simp at h
 ·cases h
def ET{ρ:Maps}{F:jH}{R:Nat->mU}(h:WR T n w0.heap.size ρ F R fr H a w)(m:Ext w0.heap.size G0 F0 n0 w0 ρ.G F H.length w)(s d:TypeId){e:TypeId}(y:ByteArray)(hs:P.underlying s=some .string)(p:P.underlying d=some (.slice e))
  (he:P.underlying e=some (.int .u8)) (f:y.size<=kM) {dst:Option Nat} (g:∀d,dst=some d->d<n):∃w',(convert s d (.string y)).run P w=.ok (.slice (some ⟨w.heap.size,0,none⟩) y.size (grownCap w y.size 0 e)) w'/\SR T n G0 F0 n0 w0 (fr.put dst (.yx H.length 0 y.size (grownCap w y.size 0 e))) (H++[lH y++Dd (grownCap w y.size 0 e-y.size)]) (a.put dst (.slice (some ⟨w.heap.size,0,none⟩) y.size (grownCap w y.size 0 e))) w':=by
 have i:=grownCap_ge w y.size 0 e;have hle:=grownCap_le_maxLen w y.size 0 e (by have:y.size<=1099511627776:=f;simp only[maxLen];omega);refine⟨_,run_bytes_of_string w s d e y hs p he,rj h.drew m.drew (.cells (.inr (hO _)) ?_ ?_) g ?_⟩
 ·have q:(bytesRow y (grownCap w y.size 0 e)).toList=Lib.strCells y++List.replicate (grownCap w y.size 0 e-y.size) (.int .u8 0):=by
   simp[bytesRow,Lib.strCells]
  rw[q];refine .append ?_ ?_
  ·have r:=(rF (F:=F) (G:=ρ.G) (k:=ρ.n) (Lib.strCells y) (λv t=>by obtain⟨b,_,rfl⟩:=mO.1 t;rfl)).rP
   have u:(Lib.strCells y).map AV.sc=lH y:=by simp[Lib.strCells,lH]
   rwa [u] at r
  ·generalize grownCap w y.size 0 e-y.size=k
   induction k with
   |zero=>exact .nil|succ k x=>
    show gi _ (List.replicate (k+1) AV.undef) (List.replicate (k+1) _);rw[WQ,WQ];exact .cons (.undef rfl) x
 ·intro c hc;rcases qW.1 hc with hc|hc
  ·obtain⟨b,_,rfl⟩:=mO.1 hc;rfl
  ·exact D2 _ c hc
 ·intro ρ' hG j l;have:=fB.yx (F:=F) (G:=ρ'.G) (n:=ρ'.n) (o:=H.length) (off:=0) (len:=y.size) (cap:=grownCap w y.size 0 e) (by rw[l];omega) i hle;rw[j] at this;exact this
def BB{E:List Nat}{o:Oper}{K:Fr->cV->Prop}{Q:Exit->Act->World->Prop}(S:pK n o=true)(hs:SR T n G0 F0 n0 w0 fr H a w)(h:p7 P T E o K fr H):o.wp P a w (λY w'=>∃fr' H',K fr' H'/\SR T n G0 F0 n0 w0 fr' H' Y w') Q:=by
 obtain⟨ρ,F,R,hw,q⟩:=hs;have D:=u9 S;have M:=H6 S
 have L:∀{v:AV},(∃u,(execOp a.eval o).run P w=.ok (.value u) w/\fl F ρ v u)->K (fr.put o.dst v) H->o.wp P a w (λY w'=>∃fr' H',K fr' H'/\SR T n G0 F0 n0 w0 fr' H' Y w') Q:=by
  rintro v ⟨u,N,hu⟩ I;unfold Oper.wp;rw[N];exact⟨_,_,I,ρ,F,R,hw.put D hu,q⟩
 have l:∀{s:Sem Value} {u:Value} {w':World},execOp a.eval o=(do pure (.value (<-s)))->s.run P w=.ok u w'->(∃fr' H',K fr' H'/\SR T n G0 F0 n0 w0 fr' H' (a.put o.dst u) w')->o.wp P a w (λY w'=>∃fr' H',K fr' H'/\SR T n G0 F0 n0 w0 fr' H' Y w') Q:=by
  intro s u w' he N I;unfold Oper.wp;rw[he,fL,N];exact I
 obtain⟨dst,op,type,pos,after,guard⟩:=o;simp only at M D;have j:∀x∈op.operands,ic x=true:=λx q=>Fh.1 M x q;unfold p7 at h;simp only at h
 split at h
 ·--alloc
  rename_i t
  split at h
  ·rename_i cells ah;obtain⟨z,hz,ai,aj,rfl⟩:=Fy ah;have ak:=h
   have al:∀vs,z≠ .tuple vs:=by rintro vs rfl;simp[ofValue,ek] at aj
   obtain⟨Z,an⟩:=xu ai al;refine l (s:=Instr.alloc t true (.tuple #[])) rfl (Kj w hz) ?_;refine Bh hw q ak D t ?_ ?_
   ·rw[Z];exact(oo F ρ.G ρ.n _ an).rP.mono λ_ _ _ h=>.p h
   ·rw[Z];intro c V;obtain⟨u,_,rfl⟩:=mO.1 V;exact uE u
  ·exact h.elim
 ·--box
  rename_i t x;obtain⟨h1,h2⟩:=h;have A:=ft hw.env hw.gQ x (j x (by simp[Op.operands]));exact l (s:=Instr.box t (a.eval x)) rfl rfl (Bh hw q h2 D t (A.cells (gC h1)) (A.tk (gC h1)))
 ·--load
  rename_i t x
  split at h
  ·rename_i v C;have A:=ft hw.env hw.gQ x (j x (by simp[Op.operands]));obtain⟨u,hu,N⟩:=FL hw C A;exact l (s:=Instr.loadAt t (a.eval x)) rfl hu ⟨_,_,h,ρ,F,R,hw.put D N,q⟩
  ·exact h.elim
 ·--store
  rename_i t x y;obtain⟨J,h⟩:=h;subst J;have A:=ft hw.env hw.gQ x (j x (by simp[Op.operands]));have ao:=ft hw.env hw.gQ y (j y (by simp[Op.operands]));obtain⟨fr',H',w',b,I,hs⟩:=ID hw q h A ao;unfold Oper.wp;have e:execOp a.eval {dst:=none,op:=.store t x y,type:=type,pos:=pos,after:=after,guard:=guard}=(do Instr.storeAt t (a.eval x) (a.eval y);pure .skip):=rfl;rw[e,fL,b];exact⟨fr',H',I,hs⟩
 ·--buildSlice
  rename_i t k ps
  split at h
  ·rename_i v C;have hp:=DS hw.env hw.gQ ps.toList λp hp=>j p.2 (by simp[Op.operands];exact⟨p.1,by simpa using hp⟩)
   have e:(ps.toList.map λp=>(p.1,a.eval p.2)).toArray=ps.map λp=>(p.1,a.eval p.2):=by rw[<-UE,QZ]
   unfold CJ at h
   split at h
   ·split at h
    ·obtain⟨u,w',b,hs⟩:=yG hw q C hp D;rw[e] at b;unfold Oper.wp;simp only[execOp,fL,b,iq];exact⟨_,_,h,hs⟩
    ·exact h.elim
   ·obtain⟨u,w',b,hs⟩:=Ai hw q C hp D;rw[e] at b;unfold Oper.wp;simp only[execOp,fL,b,iq];exact⟨_,_,h,hs⟩
  ·exact h.elim
 ·--convert
  rename_i t d x;have A:=ft hw.env hw.gQ x (j x (by simp[Op.operands]));unfold Le at h
  split at h
  ·rename_i v C;refine L (v:=v) (yp w hw.g.Ce hw.env hw.gQ M ?_) h;simp only[uH];exact C
  ·split at h
   ·rename_i e y hs aq ar;obtain⟨he,aa,h⟩:=h;rw[ar] at A;have C:=eI A;obtain⟨w',b,au⟩:=ET hw q t d y hs aq he aa D;refine l (s:=convert t d (a.eval x)) rfl (by rw[C];exact b) ⟨_,_,h _ _ (by simpa using grownCap_ge w y.size 0 e),au⟩
   ·exact h.elim
 ·--call
  rename_i c;obtain⟨callee,args,argTypes⟩:=c;have B:∀x∈args.toList,ic x=true:=λx q=>j x (by simp[Op.operands,Call.operands,uX.1 q])
  split at h
  ·--append
   rename_i V;simp only at V;subst V;obtain⟨u,w',fr',H',b,I,hs⟩:=h.elim (λh=>h.elim (λh=>G_ (ty:=type) hw q h D B) (λh=>E1 (ty:=type) hw q h D B)) (λh=>Fv (ty:=type) hw q h D B);unfold Oper.wp execOp;simp only[resolve,invoke,builtin,fL,mE,iq];rw[b];exact⟨fr',H',I,hs⟩
  ·--ab builtin
   split at h
   ·rename_i v C;refine L (v:=v) (yp w hw.g.Ce hw.env hw.gQ M ?_) h;simp only[uH];exact C
   ·exact h.elim
  ·--a U value
   rename_i f V;simp only at V;subst V;unfold oF at h;have ad:=ft hw.env hw.gQ f (j f (by simp[Op.operands,Call.operands]))
   split at h
   ·rename_i g first cap hf
    rw[hf] at ad;obtain⟨vf,vc,C,aw,ax⟩:=wQ ad;obtain⟨ae,W⟩:=h;have O:=Ds hw.env hw.gQ args.toList B
    have X:fC F ρ.G H.length (first++(args.toList.map λx=>(ev T fr x).norm)++cap) (vf++args.toList.map a.eval++vc):=by
     rw[<-hw.hn];exact((fC.nJ aw).append O).append (.nJ ax)
    have hC:=W ρ.G F w _ hw.g X;unfold Oper.wp
    have e:(execOp a.eval {dst:=dst,op:=.call {callee:=.value f,args:=args,argTypes:=argTypes},type:=type,pos:=pos,after:=after,guard:=guard}).run P w=.ok (.enter g (vf++args.toList.map a.eval++vc).toArray) w:=by
     simp only[execOp,resolve,fL];rw[C];simp only[Deferred.ofValue,mE,iq,invoke];rw[GU w ae]
     congr 2
     apply B4.1;simp
    rw[e];show Calls P g _ w _;refine hC.mono ?_;rintro e' w' ⟨r,H',v,G',F',I,rfl,ay,az,af⟩;obtain⟨ρ',R',hG,aA,aB⟩:=hw.called ay af;refine⟨_,_,I,ρ',F',R',aB.put D (.p ?_),?_⟩
    ·rw[hG,aA];exact az
    ·rw[hG];exact q.trans (af.mono hw.p5)
   ·exact h.elim
  ·exact h.elim
 ·--makeMap
  obtain⟨v,w',b,hs⟩:=Fl (P:=P) hw q D;exact l (s:=Instr.makeMap _ none) rfl b ⟨_,_,h,hs⟩
 ·--mapUpdate
  rename_i t m k x;obtain⟨J,h⟩:=h;subst J;obtain⟨fr',H',w',b,I,hs⟩:=zA hw q h (ft hw.env hw.gQ m (j m (by simp[Op.operands]))) (ft hw.env hw.gQ k (j k (by simp[Op.operands]))) (ft hw.env hw.gQ x (j x (by simp[Op.operands])));unfold Oper.wp;have e:execOp a.eval {dst:=none,op:=.mapUpdate t m k x,type:=type,pos:=pos,after:=after,guard:=guard}=(do Instr.mapUpdate t (a.eval m) (a.eval k) (a.eval x);pure .skip):=rfl;rw[e,fL,b];exact⟨fr',H',I,hs⟩
 ·--insert
  rename_i t m k x;obtain⟨J,h⟩:=h;subst J;obtain⟨fr',H',w',b,I,hs⟩:=zA hw q h (ft hw.env hw.gQ m (j m (by simp[Op.operands]))) (ft hw.env hw.gQ k (j k (by simp[Op.operands]))) (ft hw.env hw.gQ x (j x (by simp[Op.operands])));unfold Oper.wp;have e:execOp a.eval {dst:=none,op:=.insert t m k x,type:=type,pos:=pos,after:=after,guard:=guard}=(do Instr.mapUpdate t (a.eval m) (a.eval k) (a.eval x);pure .skip):=rfl;rw[e,fL,b];exact⟨fr',H',I,hs⟩
 ·--lookup
  rename_i t x i ok
  split at h
  ·rename_i v C;obtain⟨u,hu,N⟩:=HX hw C (ft hw.env hw.gQ x (j x (by simp[Op.operands]))) (ft hw.env hw.gQ i (j i (by simp[Op.operands])));exact l (s:=Instr.lookup t (a.eval x) (a.eval i) ok) rfl hu ⟨_,_,h,ρ,F,R,hw.put D N,q⟩
  ·exact h.elim
 ·--range
  rename_i t x;obtain⟨v,w',fr',H',b,I,hs⟩:=Ik hw q h D (ft hw.env hw.gQ x (j x (by simp[Op.operands])));exact l (s:=Instr.range t (a.eval x)) rfl b ⟨_,_,I,hs⟩
 ·--next
  rename_i it;obtain⟨v,w',fr',H',b,I,hs⟩:=KH hw q type h D (ft hw.env hw.gQ it (j it (by simp[Op.operands])));exact l (s:=Instr.next (a.eval it) false type) rfl b ⟨_,_,I,hs⟩
 ·--entry
  rename_i it
  split at h
  ·rename_i v C;obtain⟨u,hu,N⟩:=Kn (P:=P) hw C (ft hw.env hw.gQ it (j it (by simp[Op.operands])));exact l (s:=Instr.entry (a.eval it)) rfl hu ⟨_,_,h,ρ,F,R,hw.put D N,q⟩
  ·exact h.elim
 ·--all others only compute
  split at h
  ·rename_i v C;exact L (v:=v) (yp w hw.g.Ce hw.env hw.gQ M C) h
  ·exact h.elim
end
end Go.ky
namespace Go.ky
open Go
def Ba(P:Program)(T:dA)(E:List Nat)(ops:Array Oper)(o:Oper)(K:Fr->cV->Prop)(fr:Fr)(H:cV):Prop:=
 match o.guard with
 |none=>p7 P T E o K fr H|some (j,want)=>
  match(ops[j]?).bind (·.dst)with
  |some d=>
   match fr.env d with
   |.sc (.bool b)=>if b=want then p7 P T E o K fr H else K (fr.put o.dst (.tuple [])) H|.tuple _=>K (fr.put o.dst (.tuple [])) H|_=>False
  |none=>False
def g'(P:Program)(T:dA)(E:List Nat)(ops:Array Oper):List Oper->(Fr->cV->Prop)->Fr->cV->Prop
 |[],K,fr,H=>K fr H|o::rest,K,fr,H=>Ba P T E ops o (λfr H=>g' P T E ops rest K fr H) fr H
def uI(n:Nat)(ops:Array Oper):Bool:=ops.all (pK n)
section
variable{P:Program} {T:dA} {n:Nat} {G0:Nat->Nat} {F0:jH} {n0:Nat} {w0:World} {fr:Fr} {H:cV} {a:Act} {w:World}
def Be{F:jH}{ρ:Maps}:fl F ρ (.tuple []) undef:=.p (.tuple (vs:=[]) .nil)
def SR.put(hs:SR T n G0 F0 n0 w0 fr H a w){d:Option Nat}(c:∀b,d=some b->b<n):SR T n G0 F0 n0 w0 (fr.put d (.tuple [])) H (a.put d undef) w:=by
 obtain⟨ρ,F,R,hw,e⟩:=hs;exact⟨ρ,F,R,hw.put c Be,e⟩
def JQ(hs:SR T n G0 F0 n0 w0 fr H a w){ops:Array Oper}{j d:Nat}{b:Bool}(f:(ops[j]?).bind (·.dst)=some d)(he:fr.env d=.sc (.bool b)):yielded ops a.tmps j=some b:=by
 obtain⟨ρ,F,R,hw,g⟩:=hs;have h:=hw.env d;rw[he] at h;have c:=eI h;unfold yielded;rw[f];simp only[Oy];cases e:a.tmps[d]?with
 |none=>rw[JP,e] at c;cases c
 |some v=>
  rw[JP,e] at c;simp at c;subst c;rfl
def EV(hs:SR T n G0 F0 n0 w0 fr H a w){ops:Array Oper}{j d:Nat}{l:List AV}(b:(ops[j]?).bind (·.dst)=some d)(he:fr.env d=.tuple l):yielded ops a.tmps j=none:=by
 obtain⟨ρ,F,R,hw,e⟩:=hs;have h:=hw.env d;rw[he] at h;unfold yielded;rw[b];simp only[Oy];cases c:a.tmps[d]?with
 |none=>rfl|some v=>
  rw[JP,c] at h;simp at h;cases h with
  |cell h=>cases h with|p h=>cases h;rfl
def A6{E:List Nat}{ops:Array Oper}{i:Nat}{o:Oper}{K:Fr->cV->Prop}{Q:Exit->Act->World->Prop}(hi:ops[i]?=some o)(c:pK n o=true)(hs:SR T n G0 F0 n0 w0 fr H a w)
  (h:Ba P T E ops o K fr H) {N:Act->World->Prop} (g:∀fr' H' f w',K fr' H'->SR T n G0 F0 n0 w0 fr' H' f w'->N f w'):wpOp P ops Q i N a w:=by
 unfold wpOp;simp only[hi];unfold Ba at h
 split at h
 ·rename_i hg;rw[cG (by simp[Region.wanted,hg])];exact .inl (Oper.wp_mono (λf w' ⟨fr',H',k,e⟩=>g fr' H' f w' k e) (BB c hs h))
 ·rename_i j want hg
  split at h
  ·rename_i d p
   split at h
   ·rename_i b he;have hy:=JQ hs p he
    split at h
    ·rename_i m;rw[cG (by simp[Region.wanted,hg,hy,m])];exact .inl (Oper.wp_mono (λf w' ⟨fr',H',k,e⟩=>g fr' H' f w' k e) (BB c hs h))
    ·rename_i m;rw[cB (by simp[Region.wanted,hg,hy,m])];exact g _ _ _ _ h (hs.put (u9 c))
   ·rename_i l he;have hy:=EV hs p he;rw[cB (by simp[Region.wanted,hg,hy])];exact g _ _ _ _ h (hs.put (u9 c))
   ·exact h.elim
  ·exact h.elim
def Ju{E:List Nat}{ops:Array Oper}{K:Fr->cV->Prop}{Q:Exit->Act->World->Prop}(b:uI n ops=true)
  (i:∀fr' H' e w',K fr' H'->SR T n G0 F0 n0 w0 fr' H' e w'->Q .normal e w'):∀(l:List Oper) (k:Nat) (fr:Fr) (H:cV) (a:Act) (w:World),l=ops.toList.drop k->SR T n G0 F0 n0 w0 fr H a w->g' P T E ops l K fr H->wpOps P ops Q (List.range' k l.length) a w:=by
 intro l
 induction l with
 |nil=>
  intro k fr H a w c hs h;simp only[tH,List.range'_zero,wpOps];exact i _ _ _ _ h hs
 |cons o l j=>
  intro k fr H a w c hs h
  have d:k<ops.toList.length:=by
   rcases p4 k ops.toList.length with h'|h'
   ·exact h'
   ·rw[IT h'] at c;cases c
  have m:=Kz d;rw[m] at c;injection c with p q
  have hi:ops[k]?=some o:=by
   rw[p];simp only[P'];exact L9 (by simpa using d)
  simp only[jW,TP];rw[wpOps_cons];have f:pK n o=true:=Fh.1 b o (P4 hi);refine A6 hi f hs h ?_;intro fr' H' e w' r g;exact j (k+1) fr' H' e w' q g r
end
def g_(P:Program)(T:dA)(n:Nat)(c:Code)(Q:Exit->Fr->cV->Prop)(fr:Fr)(H:cV):Prop:=
 ∀G0 F0 n0 w0 a w,SR T n G0 F0 n0 w0 fr H a w->c.wp P (λe b w'=>∃fr' H',Q e fr' H'/\SR T n G0 F0 n0 w0 fr' H' b w') a w
def FA(K:Fr->cV->Prop)(Q:Exit->Fr->cV->Prop):Exit->Fr->cV->Prop
 |.normal,fr,H=>K fr H|e,fr,H=>Q e fr H
def Cw(id:Nat)(Q:Exit->Fr->cV->Prop):Exit->Fr->cV->Prop
 |.exit a,fr,H=>if a=id then Q .normal fr H else Q (.exit a) fr H|e,fr,H=>Q e fr H
section
variable{P:Program} {T:dA} {n:Nat} {Q Q':Exit->Fr->cV->Prop} {fr:Fr} {H:cV}
def g_.mono{c:Code}(h:g_ P T n c Q fr H)(b:∀e fr H,Q e fr H->Q' e fr H):g_ P T n c Q' fr H:=
 λG0 F0 n0 w0 a w hs=>wp_mono (h G0 F0 n0 w0 a w hs) λ_ _ _ ⟨fr',H',d,f⟩=>⟨fr',H',b _ _ _ d,f⟩
def g_.skip(h:Q .normal fr H):g_ P T n .skip Q fr H:=λ_ _ _ _ _ _ hs=>wp_skip ⟨_,_,h,hs⟩
def g_.label{l:Nat}(h:Q .normal fr H):g_ P T n (.label l) Q fr H:=λ_ _ _ _ _ _ hs=>wp_label ⟨_,_,h,hs⟩
def g_.scope{c:Code}(h:g_ P T n c (λe fr H=>(match e with|.goto _=>False|_=>True)/\Q e fr H) fr H):g_ P T n (.scope c) Q fr H:=
 λG0 F0 n0 w0 a w hs=>wp_scope_straight (wp_mono (h G0 F0 n0 w0 a w hs) λe _ _ ⟨fr',H',b,d⟩=>by
  cases e<;>first|exact b.1.elim|exact⟨fr',H',b.2,d⟩)
def g_.exit{id:Nat}(h:Q (.exit id) fr H):g_ P T n (.exit id) Q fr H:=λ_ _ _ _ _ _ hs=>wp_exit ⟨_,_,h,hs⟩
def g_.ret(h:Q .ret fr H):g_ P T n .ret Q fr H:=λ_ _ _ _ _ _ hs=>wp_ret ⟨_,_,h,hs⟩
def g_.seq{x y:Code}(h:g_ P T n x (FA (g_ P T n y Q) Q) fr H):g_ P T n (.seq x y) Q fr H:=by
 intro G0 F0 n0 w0 a w hs;refine wp_seq (wp_mono (h G0 F0 n0 w0 a w hs) ?_);rintro e d w' ⟨fr',H',b,c⟩
 cases e<;>first|exact b G0 F0 n0 w0 d w' c|exact⟨fr',H',b,c⟩
def g_.cond{c:Operand}{x y:Code}{t:Bool}(d:ev T fr c=.sc (.bool t))(f:ic c=true)(g:t=true->g_ P T n x Q fr H)(i:t=false->g_ P T n y Q fr H):g_ P T n (.cond c x y) Q fr H:=by
 intro G0 F0 n0 w0 a w hs;have b:=hs;obtain⟨ρ,F,R,hw,j⟩:=b;have h:=ft hw.env hw.gQ c f;rw[d] at h;exact wp_cond_split (eI h) (λe=>g e G0 F0 n0 w0 a w hs) (λe=>i e G0 F0 n0 w0 a w hs)
def g_.block{id:Nat}{c:Code}(h:g_ P T n c (Cw id Q) fr H):g_ P T n (.block id c) Q fr H:=by
 intro G0 F0 n0 w0 a w hs;refine wp_block (wp_mono (h G0 F0 n0 w0 a w hs) ?_);rintro e g w' ⟨fr',H',b,d⟩;cases e with
 |exit f=>
  simp only[Cw,Exit.inBlock] at b|-
  split at b
  ·rename_i he;rw[cG he];exact⟨fr',H',b,d⟩
  ·rename_i he;rw[cB he];exact⟨fr',H',b,d⟩
 |_=>exact⟨fr',H',b,d⟩
def g_.region{id:Nat}{ops:Array Oper}(E:List Nat)(b:uI n ops=true)(h:g' P T E ops ops.toList (Q .normal) fr H):g_ P T n (.region id ops false) Q fr H:=by
 intro G0 F0 n0 w0 a w hs;refine wp_region ?_;have:=Ju (Q:=λe c w'=>∃fr' H',Q e fr' H'/\SR T n G0 F0 n0 w0 fr' H' c w') b (λfr' H' c w' d f=>⟨fr',H',d,f⟩) ops.toList 0 fr H a w (by simp) hs h;rw[T9];simpa using this
def RW(P:Program)(T:dA)(n:Nat)(c:Code)(Q:Exit->Fr->cV->Prop)(fr:Fr)(H:cV):Prop:=
 ∀G0 F0 n0 w0 a w,SR T n G0 F0 n0 w0 fr H a w->∀(b:Frame) (k:List Item) (cs:List Frame),∃e d w',(∃fr' H',Q e fr' H'/\SR T n G0 F0 n0 w0 fr' H' d w')/\Arrives P (lone (b.at a (.code c::.inLoop c::k)) cs w) b k cs e d w'
def g_.loop{c:Code}(h:RW P T n c Q fr H):g_ P T n (.loop c) Q fr H:=by
 intro G0 F0 n0 w0 a w hs b k cs;obtain⟨e,f,w',g,d⟩:=h G0 F0 n0 w0 a w hs b k cs;exact⟨e,f,w',g,.of_steps (.one step_loop) d⟩
def RW.round{c:Code}(h:g_ P T n c (FA (RW P T n c Q) Q) fr H):RW P T n c Q fr H:=by
 intro G0 F0 n0 w0 a w hs b k cs;obtain⟨e,i,j,⟨fr',H',g,o⟩,d⟩:=h G0 F0 n0 w0 a w hs b (.inLoop c::k) cs
 have pass:∀e,e≠ .normal->Q e fr' H'->Arrives P (lone (b.at a (.code c::.inLoop c::k)) cs w) b (.inLoop c::k) cs e i j->∃e p w',(∃fr' H',Q e fr' H'/\SR T n G0 F0 n0 w0 fr' H' p w')/\Arrives P (lone (b.at a (.code c::.inLoop c::k)) cs w) b k cs e p w':=by
  intro e he q d;exact⟨e,i,j,⟨fr',H',q,o⟩,.pass (x:=.inLoop c) rfl (λ_ _=>.inl he) d⟩
 cases e with
 |normal=>
  have r:RW P T n c Q fr' H':=g;obtain⟨s,t,u,m,f⟩:=r G0 F0 n0 w0 i j o b k cs;exact⟨s,t,u,m,.of_steps (Steps.trans d (.one step_inLoop)) f⟩
 |exit id=>exact pass _ (by simp) g d|goto l=>exact pass _ (by simp) g d|ret=>exact pass _ (by simp) g d|panic v=>exact pass _ (by simp) g d|outgrown=>exact pass _ (by simp) g d
end
def YR(args:List AV):Fr:={env:=λt=>args.getD t (.tuple []),box:=λ_=>none,gen:=λ_=>0,qS:=λ_=>none,ea:=λ_=>0}
def Ej(P:Program)(fr:Fr)(H:cV):List ResultVar->Option (List AV)
 |[]=>some []|.tmp t::rest=>(Ej P fr H rest).map ((fr.env t).norm:: ·)|.cell a t::rest=>(tZ P fr H t (fr.env a)).bind λv=>(Ej P fr H rest).map (v.norm:: ·)
def rQ:List AV->AV
 |[x]=>x|l=>.tuple l
def wm(P:Program)(rs:List ResultVar)(Post:AV->cV->Prop):Exit->Fr->cV->Prop
 |.normal,fr,H|.ret,fr,H=>match Ej P fr H rs with
  |some l=>Post (rQ l) H|none=>False
 |_,_,_=>False
section
variable{P:Program} {T:dA} {n:Nat} {fr:Fr} {H:cV} {a:Act} {w:World}
def OI(tmps:Array Value)(x:ResultVar):Sem Value:=
 match x with
 |.tmp t=>pure (tmps.getD t undef)|.cell a t=>do loadVar t (<-asAddr (tmps.getD a undef))
def zC{t:TypeId}{u v:Value}(h:(Instr.loadAt t u).run P w=.ok v w):(do loadVar t (<-asAddr u)).run P w=.ok v w:=by
 unfold Instr.loadAt at h;cases u with
 |pointer p=>
  cases p with
  |none=>simp[Instr.sureAddr,fL,stuck,Sem.run,Result.andThen] at h
  |some a=>exact h
 |_=>simp[Instr.sureAddr,fL,stuck,Sem.run,Result.andThen] at h
def OK{ρ:Maps}{F:jH}{R:Nat->mU}{B0:Nat}(h:WR T n B0 ρ F R fr H a w):∀(rs:List ResultVar) (l:List AV),Ej P fr H rs=some l->∃vs:List Value,(rs.mapM (OI a.tmps)).run P w=.ok vs w/\fC F ρ.G ρ.n l vs:=by
 intro rs
 induction rs with
 |nil=>intro l b;simp[Ej] at b;subst b;exact⟨[],rfl,.nil⟩
 |cons r rs k=>
  intro l b;cases r with
  |tmp t=>
   simp only[Ej,Qw] at b;obtain⟨c,d,rfl⟩:=b;obtain⟨vs,f,g⟩:=k c d;refine⟨a.tmps.getD t undef::vs,?_,.cons (h.env t).norm g⟩;simp only[X8,fL,OI,mE,iq,f]
  |cell i t=>
   simp only[Ej,Yj,Qw] at b;obtain⟨v,m,c,d,rfl⟩:=b;obtain⟨vs,f,g⟩:=k c d;obtain⟨u,hu,o⟩:=FL h m (h.env i);refine⟨u::vs,?_,.cons o.norm g⟩;have j:=zC hu;simp only[X8];rw[fL];have e:(OI a.tmps (.cell i t))=(do loadVar t (<-asAddr (a.tmps.getD i undef))):=rfl;rw[e,j,iq,fL,f];rfl
def IZ{ρ:Maps}{F:jH}{R:Nat->mU}{B0:Nat}(h:WR T n B0 ρ F R fr H a w){fn:Func}{l:List AV}(c:Ej P fr H fn.results.toList=some l):∃v,(results fn a.tmps).run P w=.ok v w/\fB F ρ.G ρ.n (rQ l) v:=by
 obtain⟨vs,d,f⟩:=OK (P:=P) h _ _ c
 have e:results fn a.tmps=(do
   let vs<-fn.results.mapM (OI a.tmps)
   pure (if h:vs.size=1 then vs[0] else .tuple vs)):=rfl
 have hm:(fn.results.mapM (OI a.tmps)).run P w=.ok vs.toArray w:=by
  rw[<-QZ (xs:=fn.results),Ut,run_map,d];rfl
 rw[e,fL,hm,iq,mE];refine⟨_,rfl,?_⟩;cases f with
 |nil=>exact .tuple (vs:=[]) .nil|cons b g=>
  cases g with
  |nil=>exact b|cons i j=>
   have:=fB.tuple (.cons b (.cons i j));simpa[rQ] using this
open Classical in
def ej.intro{f:FuncId}{fn:Func}{c:Code}{args:List AV}{Post:AV->cV->Prop}(K:P.funcs[f]?=some fn)(M:fn.body=some c)(q:rh P f=true)(hlen:args.length<=fn.ntmps)
  (h:g_ P T fn.ntmps c (wm P fn.results.toList Post) (YR args) H):ej P T f args H Post:=by
 refine⟨q,λG F w vs hg E=>?_⟩;refine calls_of_wp K M ?_;have s:args.length=vs.length:=E.length
 let ρ:Maps:={G:=G,n:=H.length,L:=λ_ _=>0,lg:=λ_=>0,A:=λ_ _=>none,ag:=λ_=>0}
 let R:Nat->mU:=λb=>if∃o,o<H.length/\G o=b then .ka else .free
 have hw:WR T fn.ntmps w.heap.size ρ F R (YR args) H {tmps:=vs.toArray++Array.replicate (fn.ntmps-vs.toArray.size) undef,defers:=[]} w:=by
  refine⟨hg,?_,rfl,?_,rfl,λ_=>rfl,λ_=>rfl,?_,?_,?_,?_,?_,hO _⟩
  ·simp only[Array.size_append,L_,Array.size_replicate];omega
  ·intro t;show fl F ρ (args.getD t (.tuple [])) _;rcases p4 t args.length with ht|ht
   ·obtain⟨v,x,y⟩:=E.get (na ht)
    have z:args.getD t (.tuple [])=args[t]:=by simp[ht]
    have B:(vs.toArray++Array.replicate (fn.ntmps-vs.toArray.size) undef).getD t undef=v:=by
     rw[JP,Array.getElem?_append_left (by simpa[<-s] using ht)];simp[x]
    rw[z,B];exact .p y
   ·have z:args.getD t (.tuple [])=.tuple []:=by simp[QL ht]
    have B:(vs.toArray++Array.replicate (fn.ntmps-vs.toArray.size) undef).getD t undef=undef:=by
     rw[JP,Array.getElem?_append_right (by simpa[<-s] using ht),Array.getElem?_replicate]
     split<;>rfl
    rw[z,B];exact Be
  ·intro d cs N;cases N
  ·intro k m O;cases O
  ·intro b j v x d;show(if∃o,o<H.length/\G o=b then mU.ka else .free)≠ .box d
   split<;>simp
  ·intro o C;show(if∃o',o'<H.length/\G o'=G o then mU.ka else .free)=.ka;rw[cG ⟨o,C,rfl⟩]
  ·intro b Q;show(if∃o,o<H.length/\G o=b then mU.ka else .free)=.free;rw[cB];rintro⟨o,C,rfl⟩;obtain⟨V,S,_⟩:=hg.ka o _ (na C);have:=nF S;omega
 refine wp_mono (h G F H.length w _ w ⟨ρ,F,R,hw,Ext.refl⟩) ?_;rintro e I w' ⟨fr',H',a,ρ',F',W,i,D⟩
 have key:∀{l:List AV},Ej P fr' H' fn.results.toList=some l->Post (rQ l) H'->I.defers=[]/\∃v,(results fn I.tmps).run P w'=.ok v w'/\∃r H' J G' F',Post r H'/\Ending.returned v=.returned J/\GW T G' F' H' w'/\fB F' G' H'.length r J/\Ext w.heap.size G F H.length w G' F' H'.length w':=by
  intro l u U;obtain⟨v,x,y⟩:=IZ i u;rw[i.hn] at y;exact⟨i.defers,v,x,_,_,v,_,_,U,rfl,i.g,y,D⟩
 cases e with
 |normal=>
  simp only[wm] at a
  split at a
  ·rename_i l u;exact key u a
  ·exact a.elim
 |ret=>
  simp only[wm] at a
  split at a
  ·rename_i l u;exact key u a
  ·exact a.elim
 |_=>exact a.elim
end
end Go.ky
