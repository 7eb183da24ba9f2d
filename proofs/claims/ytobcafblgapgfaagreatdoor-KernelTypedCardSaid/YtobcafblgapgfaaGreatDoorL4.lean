/- Part of the proof of KernelTyped: layer. -/
import Derived.Laws.IdiomStrings
import Derived.Scope
import Derived.Test.YtobcafblgapgfaaGreatDoorL3
set_option linter.all false
namespace Go.m7
open Go
def sw(P:Program)(f:FuncId):Bool:=
 match P.funcs[f]?with
 |some fn=>fn.body.isSome&&fn.name != "runtime.NumGoroutine"
 |none=>false
def fG(P:Program)(T:fa)(f:FuncId)(args:List AV)(H:eD)(Post:AV->eD->Prop):Prop:=
 sw P f=true/\∀(G:Nat->Nat) (F:lF) (w:World) (vs:List Value),GW T G F H w->hU F G H.length args vs->Calls P f vs.toArray w λe w'=>∃r H' v G' F',Post r H'/\e=.returned v/\GW T G' F' H' w'/\ib F' G' H'.length r v/\Ext w.heap.size G F H.length w G' F' H'.length w'
def eZ(P:Program)(T:fa)(f:FuncId)(args:List AV)(H:eD)(r:AV)(H':eD):Prop:=fG P T f args H λb a=>b=r/\a=H'
theorem fG.mono{P:Program}{T:fa}{f:FuncId}{args:List AV}{H:eD}{Post Post':AV->eD->Prop}(h:fG P T f args H Post)(a:∀r H',Post r H'->Post' r H'):fG P T f args H Post':=
 ⟨h.1,λG F w vs hg b=>(h.2 G F w vs hg b).mono λ_ _ ⟨r,H',v,G',F',c,d⟩=>⟨r,H',v,G',F',a _ _ c,d⟩⟩
def eZ.post{P:Program}{T:fa}{f:FuncId}{args:List AV}{H H':eD}{r:AV}{Post:AV->eD->Prop}(h:eZ P T f args H r H')(a:Post r H'):fG P T f args H Post:=
 fG.mono h λe b ⟨c,d⟩=>by subst c;subst d;exact a
def rA(P:Program)(T:fa)(a:AV)(args:List AV)(H:eD)(Post:AV->eD->Prop):Prop:=
 match a with
 |.func (.func g) first cap=>fG P T g (first++args++cap) H Post
 |_=>False
section
variable{P:Program} {T:fa} {n:Nat} {G0:Nat->Nat} {F0:lF} {n0:Nat} {w0:World} {fr:Fr} {H:eD} {a:Act} {w:World}
open Classical in
def WR.called{ρ:Maps}{F:lF}{R:Nat->pX}{B0:Nat}(h:WR T n B0 ρ F R fr H a w){G':Nat->Nat}{F':lF}{H':eD}{w':World}(hg:GW T G' F' H' w')
  (i:Ext w.heap.size ρ.G F H.length w G' F' H'.length w'):∃ρ' s,ρ'.G=G'/\ρ'.n=H'.length/\WR T n B0 ρ' F' s fr H' a w':=by
 let ρ':Maps:={ρ with G:=G',n:=H'.length}
 let s:Nat->pX:=λb=>if∃o,H.length<=o/\o<H'.length/\G' o=b then .mc else R b
 have x:DZ F F' ρ.G G' ρ.n H'.length:=by
  refine⟨λb o v D=>?_,by rw[h.hn];exact i.len,λo q=>i.hG o (by rw[<-h.hn];exact q)⟩;exact i.mF b o v (h.aao D) D
 have t:ur F F' ρ ρ':=⟨x,λ_=>jo _,λ_ _ _=>rfl,λ_=>jo _,λ_ _ _=>rfl⟩
 have f:∀b,b<w.heap.size->s b=R b:=by
  intro b hb;show(if∃o,H.length<=o/\o<H'.length/\G' o=b then pX.mc else R b)=R b;rw[ea];rintro⟨o,h1,p,rfl⟩;have:=i.KM o h1 p;omega
 have l:∀b,R b≠ .mc->∀o,o<H.length->ρ.G o≠b:=by
  rintro b hb o q rfl;exact hb (h.oz o q)
 refine⟨ρ',s,rfl,rfl,⟨hg,h.size,h.defers,h.env.grow t,rfl,h.lg,h.ag,?_,?_,?_,?_,?_,C7 h.rF i.size⟩⟩
 ·intro d cs I;obtain⟨h1,p,y,vs,ty,r,z⟩:=h.box d cs I;have g:=pU r;exact⟨h1,by rw[f _ g];exact p,y,vs,ty,(i.heap _ g (l _ (by rw[p];simp))).trans r,z.mono λ_ _ _ h=>h.grow t⟩
 ·intro k m J b c sz K;obtain⟨h1,p,y,A,⟨vs,ty,r,z⟩,L⟩:=h.tok k m J b c sz K;have g:=pU r;refine⟨h1,by rw[f _ g];exact p,y,A,⟨vs,ty,(i.heap _ g (l _ (by rw[p];simp))).trans r,z⟩,λj M=>?_⟩;rw[i.hF b j g (l _ (by rw[p];simp))];exact L j M
 ·intro b j v E;rcases sH b w.heap.size with hb|hb
  ·rw[f b hb]
   by_cases u:∃o,o<H.length/\ρ.G o=b
   ·obtain⟨o,q,rfl⟩:=u;rw[h.oz o q];simp
   ·rw[i.hF b j hb λo q e=>u ⟨o,q,e⟩] at E;exact h.rZ b j v E
  ·intro d;show(if∃o,H.length<=o/\o<H'.length/\G' o=b then pX.mc else R b)≠ .box d
   split
   ·simp
   ·rw[h.mB b hb];simp
 ·intro o q;rcases sH o H.length with h1|h1
  ·have B:=h.oz o h1
   have g:ρ.G o<w.heap.size:=by
    rcases sH (ρ.G o) w.heap.size with h'|h'
    ·exact h'
    ·rw[h.mB _ h'] at B;cases B
   show s (G' o)=.mc;rw[i.hG o h1,f _ g];exact B
  ·show(if∃o',H.length<=o'/\o'<H'.length/\G' o'=G' o then pX.mc else R (G' o))=.mc;rw[ee ⟨o,h1,q,rfl⟩]
 ·intro b hb;show(if∃o,H.length<=o/\o<H'.length/\G' o=b then pX.mc else R b)=.free;rw[ea]
  ·exact h.mB b (C7 i.size hb)
  ·rintro⟨o,h1,p,rfl⟩;have C:H'[o]?=some H'[o]:=oD p;obtain⟨N,r,_⟩:=hg.mc o _ C;have:=pU r;omega
end
def FN(E:List Nat)(dst:Option Nat)(v:AV)(K:Fr->eD->Prop)(fr:Fr)(H:eD):Prop:=
 if dst.any E.contains=true then(match v with|.slice _ l=>K (fr.put dst (.zz H.length 0 l.length l.length)) (H++[l.flatMap AV.cells])|_=>False)else K (fr.put dst v) H
def Ra(P:Program)(dst:Option Nat)(s d:TypeId)(x:AV)(K:Fr->eD->Prop)(fr:Fr)(H:eD):Prop:=
 match SS P s d x with
 |some v=>K (fr.put dst v) H|none=>match P.underlying s,P.underlying d,x with
  |some .string,some (.slice e),.sc (.string y)=>P.underlying e=some (.int .u8)/\y.size<=nU/\∀cap k,y.size<=cap->K (fr.put dst (.zz H.length 0 y.size cap)) (H++[qF y++E4 k])|_,_,_=>False
def sx(P:Program)(T:fa)(E:List Nat)(o:Oper)(K:Fr->eD->Prop)(fr:Fr)(H:eD):Prop:=
 match o.op with
 |.alloc t=>match lA P t with
  |some z=>lu E o.dst z K fr H|none=>False
 |.box _ x=>fZ (ev T fr x)=true/\lu E o.dst (ev T fr x).cells K fr H|.load t x=>match uq P fr H t (ev T fr x)with
  |some v=>K (fr.put o.dst v) H|none=>False
 |.store t x y=>o.dst=none/\nw P t (ev T fr x) (ev T fr y) K fr H|.buildSlice t n ps=>match nQ P t n (ps.toList.map λp=>(p.1,ev T fr p.2))with
  |some v=>FN E o.dst v K fr H|none=>False
 |.convert s d x=>Ra P o.dst s d (ev T fr x) K fr H|.call c=>match c.callee with
  |.builtin .append=>(nM P T c o.dst K fr H\/BY P T c o.dst K fr H)\/CA P T c o.dst K fr H|.builtin _=>match wk P T fr c with
   |some v=>K (fr.put o.dst v) H|none=>False
  |.value f=>rA P T (ev T fr f) (c.args.toList.map λx=>(ev T fr x).norm) H λr H'=>K (fr.put o.dst r) H'|.invoke _ _=>False
 |.makeMap _ none=>Hq o.dst K fr H|.mapUpdate t m k x=>o.dst=none/\sF P t (ev T fr m) (ev T fr k) (ev T fr x) K fr H|.insert t m k x=>o.dst=none/\sF P t (ev T fr m) (ev T fr k) (ev T fr x) K fr H|.lookup t x i ok=>match uP P H t (ev T fr x) (ev T fr i) ok with
  |some v=>K (fr.put o.dst v) H|none=>False
 |.range t x=>GZ P t (ev T fr x) o.dst K fr H|.next it false=>Ja (ev T fr it) o.dst K fr H|.entry it=>match D3 (ev T fr it) H with
  |some v=>K (fr.put o.dst v) H|none=>False
 |_=>match x0 P T fr o with
  |some v=>K (fr.put o.dst v) H|none=>False
def sl(n:Nat)(o:Oper):Bool:=o.dst.all (λd=>decide (d<n))&&o.op.operands.all jY
def yf{n:Nat}{o:Oper}(h:sl n o=true):∀d,o.dst=some d->d<n:=by
 intro d a;simp only[sl,gI] at h;rw[a] at h;simpa using h.1
def LC{n:Nat}{o:Oper}(h:sl n o=true):o.op.operands.all jY=true:=by
 simp only[sl,gI] at h;exact h.2
section
variable{P:Program} {T:fa} {n:Nat} {G0:Nat->Nat} {F0:lF} {n0:Nat} {w0:World} {fr:Fr} {H:eD} {a:Act} {w:World}
def Kz(w:World){f:FuncId}(h:sw P f=true)(args:Array Value):(callFunc f args).run P w=.ok (.enter f args) w:=by
 unfold sw at h
 split at h
 ·rename_i fn b;simp only[gI,bne_iff_ne,ne_eq] at h;simp[callFunc,program,Sem.run,b,h.2];intro a;rw[a] at h;simp at h
 ·cases h
def HW{ρ:Maps}{F:lF}{R:Nat->pX}(h:WR T n w0.heap.size ρ F R fr H a w)(m:Ext w0.heap.size G0 F0 n0 w0 ρ.G F H.length w)(s d:TypeId){e:TypeId}(y:ByteArray)(hs:P.underlying s=some .string)(p:P.underlying d=some (.slice e))
  (he:P.underlying e=some (.int .u8)) (f:y.size<=nU) {dst:Option Nat} (g:∀d,dst=some d->d<n):∃w',(convert s d (.string y)).run P w=.ok (.slice (some ⟨w.heap.size,0,none⟩) y.size (grownCap w y.size 0 e)) w'/\SR T n G0 F0 n0 w0 (fr.put dst (.zz H.length 0 y.size (grownCap w y.size 0 e))) (H++[qF y++E4 (grownCap w y.size 0 e-y.size)]) (a.put dst (.slice (some ⟨w.heap.size,0,none⟩) y.size (grownCap w y.size 0 e))) w':=by
 have i:=grownCap_ge w y.size 0 e;have hle:=grownCap_le_maxLen w y.size 0 e (by have:y.size<=1099511627776:=f;simp only[maxLen];omega);refine⟨_,run_bytes_of_string w s d e y hs p he,uG h.drew m.drew (.cells (.inr (jo _)) ?_ ?_) g ?_⟩
 ·have q:(bytesRow y (grownCap w y.size 0 e)).toList=Lib.strCells y++List.replicate (grownCap w y.size 0 e-y.size) (.int .u8 0):=by
   simp[bytesRow,Lib.strCells]
  rw[q];refine .append ?_ ?_
  ·have r:=(vJ (F:=F) (G:=ρ.G) (k:=ρ.n) (Lib.strCells y) (λv t=>by obtain⟨b,_,rfl⟩:=oy.1 t;rfl)).uM
   have u:(Lib.strCells y).map AV.sc=qF y:=by simp[Lib.strCells,qF]
   rwa [u] at r
  ·generalize grownCap w y.size 0 e-y.size=k
   induction k with
   |zero=>exact .nil|succ k x=>
    show iA _ (List.replicate (k+1) AV.undef) (List.replicate (k+1) _);rw[RU,RU];exact .cons (.undef rfl) x
 ·intro c hc;rcases sR.1 hc with hc|hc
  ·obtain⟨b,_,rfl⟩:=oy.1 hc;rfl
  ·exact FI _ c hc
 ·intro ρ' hG j l;have:=ib.zz (F:=F) (G:=ρ'.G) (n:=ρ'.n) (o:=H.length) (off:=0) (len:=y.size) (cap:=grownCap w y.size 0 e) (by rw[l];omega) i hle;rw[j] at this;exact this
def Ev{E:List Nat}{o:Oper}{K:Fr->eD->Prop}{Q:Exit->Act->World->Prop}(S:sl n o=true)(hs:SR T n G0 F0 n0 w0 fr H a w)(h:sx P T E o K fr H):o.wp P a w (λY w'=>∃fr' H',K fr' H'/\SR T n G0 F0 n0 w0 fr' H' Y w') Q:=by
 obtain⟨ρ,F,R,hw,q⟩:=hs;have D:=yf S;have M:=LC S
 have L:∀{v:AV},(∃u,(execOp a.eval o).run P w=.ok (.value u) w/\hO F ρ v u)->K (fr.put o.dst v) H->o.wp P a w (λY w'=>∃fr' H',K fr' H'/\SR T n G0 F0 n0 w0 fr' H' Y w') Q:=by
  rintro v ⟨u,N,hu⟩ I;unfold Oper.wp;rw[N];exact⟨_,_,I,ρ,F,R,hw.put D hu,q⟩
 have l:∀{s:Sem Value} {u:Value} {w':World},execOp a.eval o=(do pure (.value (<-s)))->s.run P w=.ok u w'->(∃fr' H',K fr' H'/\SR T n G0 F0 n0 w0 fr' H' (a.put o.dst u) w')->o.wp P a w (λY w'=>∃fr' H',K fr' H'/\SR T n G0 F0 n0 w0 fr' H' Y w') Q:=by
  intro s u w' he N I;unfold Oper.wp;rw[he,iu,N];exact I
 obtain⟨dst,op,type,pos,after,guard⟩:=o;simp only at M D;have j:∀x∈op.operands,jY x=true:=λx q=>IS.1 M x q;unfold sx at h;simp only at h
 split at h
 ·--alloc
  rename_i t
  split at h
  ·rename_i cells ah;obtain⟨z,hz,ai,aj,rfl⟩:=JG ah;have ak:=h
   have al:∀vs,z≠ .tuple vs:=by rintro vs rfl;simp[ofValue,fZ] at aj
   obtain⟨Z,an⟩:=A0 ai al;refine l (s:=Instr.alloc t true (.tuple #[])) rfl (Oh w hz) ?_;refine EF hw q ak D t ?_ ?_
   ·rw[Z];exact(ri F ρ.G ρ.n _ an).uM.mono λ_ _ _ h=>.p h
   ·rw[Z];intro c V;obtain⟨u,_,rfl⟩:=oy.1 V;exact yw u
  ·exact h.elim
 ·--box
  rename_i t x;obtain⟨h1,h2⟩:=h;have A:=hW hw.env hw.jr x (j x (by simp[Op.operands]));exact l (s:=Instr.box t (a.eval x)) rfl rfl (EF hw q h2 D t (A.cells (je h1)) (A.wN (je h1)))
 ·--load
  rename_i t x
  split at h
  ·rename_i v C;have A:=hW hw.env hw.jr x (j x (by simp[Op.operands]));obtain⟨u,hu,N⟩:=JC hw C A;exact l (s:=Instr.loadAt t (a.eval x)) rfl hu ⟨_,_,h,ρ,F,R,hw.put D N,q⟩
  ·exact h.elim
 ·--store
  rename_i t x y;obtain⟨J,h⟩:=h;subst J;have A:=hW hw.env hw.jr x (j x (by simp[Op.operands]));have ao:=hW hw.env hw.jr y (j y (by simp[Op.operands]));obtain⟨fr',H',w',b,I,hs⟩:=Mp hw q h A ao;unfold Oper.wp;have e:execOp a.eval {dst:=none,op:=.store t x y,type:=type,pos:=pos,after:=after,guard:=guard}=(do Instr.storeAt t (a.eval x) (a.eval y);pure .skip):=rfl;rw[e,iu,b];exact⟨fr',H',I,hs⟩
 ·--buildSlice
  rename_i t k ps
  split at h
  ·rename_i v C;have hp:=GD hw.env hw.jr ps.toList λp hp=>j p.2 (by simp[Op.operands];exact⟨p.1,by simpa using hp⟩)
   have e:(ps.toList.map λp=>(p.1,a.eval p.2)).toArray=ps.map λp=>(p.1,a.eval p.2):=by rw[<-TS,XW]
   unfold FN at h
   split at h
   ·split at h
    ·obtain⟨u,w',b,hs⟩:=C6 hw q C hp D;rw[e] at b;unfold Oper.wp;simp only[execOp,iu,b,kf];exact⟨_,_,h,hs⟩
    ·exact h.elim
   ·obtain⟨u,w',b,hs⟩:=Ds hw q C hp D;rw[e] at b;unfold Oper.wp;simp only[execOp,iu,b,kf];exact⟨_,_,h,hs⟩
  ·exact h.elim
 ·--convert
  rename_i t d x;have A:=hW hw.env hw.jr x (j x (by simp[Op.operands]));unfold Ra at h
  split at h
  ·rename_i v C;refine L (v:=v) (By w hw.g.EX hw.env hw.jr M ?_) h;simp only[x0];exact C
  ·split at h
   ·rename_i e y hs aq ar;obtain⟨he,aa,h⟩:=h;rw[ar] at A;have C:=gK A;obtain⟨w',b,au⟩:=HW hw q t d y hs aq he aa D;refine l (s:=convert t d (a.eval x)) rfl (by rw[C];exact b) ⟨_,_,h _ _ (by simpa using grownCap_ge w y.size 0 e),au⟩
   ·exact h.elim
 ·--call
  rename_i c;obtain⟨callee,args,argTypes⟩:=c;have B:∀x∈args.toList,jY x=true:=λx q=>j x (by simp[Op.operands,Call.operands,yh.1 q])
  split at h
  ·--append
   rename_i V;simp only at V;subst V;obtain⟨u,w',fr',H',b,I,hs⟩:=h.elim (λh=>h.elim (λh=>KB (ty:=type) hw q h D B) (λh=>HR (ty:=type) hw q h D B)) (λh=>IG (ty:=type) hw q h D B);unfold Oper.wp execOp;simp only[resolve,invoke,builtin,iu,pE,kf];rw[b];exact⟨fr',H',I,hs⟩
  ·--ab builtin
   split at h
   ·rename_i v C;refine L (v:=v) (By w hw.g.EX hw.env hw.jr M ?_) h;simp only[x0];exact C
   ·exact h.elim
  ·--a U value
   rename_i f V;simp only at V;subst V;unfold rA at h;have ad:=hW hw.env hw.jr f (j f (by simp[Op.operands,Call.operands]))
   split at h
   ·rename_i g first cap hf
    rw[hf] at ad;obtain⟨vf,vc,C,aw,ax⟩:=Ab ad;obtain⟨ae,W⟩:=h;have O:=GN hw.env hw.jr args.toList B
    have X:hU F ρ.G H.length (first++(args.toList.map λx=>(ev T fr x).norm)++cap) (vf++args.toList.map a.eval++vc):=by
     rw[<-hw.hn];exact((hU.pS aw).append O).append (.pS ax)
    have hC:=W ρ.G F w _ hw.g X;unfold Oper.wp
    have e:(execOp a.eval {dst:=dst,op:=.call {callee:=.value f,args:=args,argTypes:=argTypes},type:=type,pos:=pos,after:=after,guard:=guard}).run P w=.ok (.enter g (vf++args.toList.map a.eval++vc).toArray) w:=by
     simp only[execOp,resolve,iu];rw[C];simp only[Deferred.ofValue,pE,kf,invoke];rw[Kz w ae]
     congr 2
     apply EZ.1;simp
    rw[e];show Calls P g _ w _;refine hC.mono ?_;rintro e' w' ⟨r,H',v,G',F',I,rfl,ay,az,af⟩;obtain⟨ρ',R',hG,aA,aB⟩:=hw.called ay af;refine⟨_,_,I,ρ',F',R',aB.put D (.p ?_),?_⟩
    ·rw[hG,aA];exact az
    ·rw[hG];exact q.trans (af.mono hw.rF)
   ·exact h.elim
  ·exact h.elim
 ·--makeMap
  obtain⟨v,w',b,hs⟩:=I3 (P:=P) hw q D;exact l (s:=Instr.makeMap _ none) rfl b ⟨_,_,h,hs⟩
 ·--mapUpdate
  rename_i t m k x;obtain⟨J,h⟩:=h;subst J;obtain⟨fr',H',w',b,I,hs⟩:=Ca hw q h (hW hw.env hw.jr m (j m (by simp[Op.operands]))) (hW hw.env hw.jr k (j k (by simp[Op.operands]))) (hW hw.env hw.jr x (j x (by simp[Op.operands])));unfold Oper.wp;have e:execOp a.eval {dst:=none,op:=.mapUpdate t m k x,type:=type,pos:=pos,after:=after,guard:=guard}=(do Instr.mapUpdate t (a.eval m) (a.eval k) (a.eval x);pure .skip):=rfl;rw[e,iu,b];exact⟨fr',H',I,hs⟩
 ·--insert
  rename_i t m k x;obtain⟨J,h⟩:=h;subst J;obtain⟨fr',H',w',b,I,hs⟩:=Ca hw q h (hW hw.env hw.jr m (j m (by simp[Op.operands]))) (hW hw.env hw.jr k (j k (by simp[Op.operands]))) (hW hw.env hw.jr x (j x (by simp[Op.operands])));unfold Oper.wp;have e:execOp a.eval {dst:=none,op:=.insert t m k x,type:=type,pos:=pos,after:=after,guard:=guard}=(do Instr.mapUpdate t (a.eval m) (a.eval k) (a.eval x);pure .skip):=rfl;rw[e,iu,b];exact⟨fr',H',I,hs⟩
 ·--lookup
  rename_i t x i ok
  split at h
  ·rename_i v C;obtain⟨u,hu,N⟩:=Lr hw C (hW hw.env hw.jr x (j x (by simp[Op.operands]))) (hW hw.env hw.jr i (j i (by simp[Op.operands])));exact l (s:=Instr.lookup t (a.eval x) (a.eval i) ok) rfl hu ⟨_,_,h,ρ,F,R,hw.put D N,q⟩
  ·exact h.elim
 ·--range
  rename_i t x;obtain⟨v,w',fr',H',b,I,hs⟩:=LN hw q h D (hW hw.env hw.jr x (j x (by simp[Op.operands])));exact l (s:=Instr.range t (a.eval x)) rfl b ⟨_,_,I,hs⟩
 ·--next
  rename_i it;obtain⟨v,w',fr',H',b,I,hs⟩:=Nr hw q type h D (hW hw.env hw.jr it (j it (by simp[Op.operands])));exact l (s:=Instr.next (a.eval it) false type) rfl b ⟨_,_,I,hs⟩
 ·--entry
  rename_i it
  split at h
  ·rename_i v C;obtain⟨u,hu,N⟩:=Nv (P:=P) hw C (hW hw.env hw.jr it (j it (by simp[Op.operands])));exact l (s:=Instr.entry (a.eval it)) rfl hu ⟨_,_,h,ρ,F,R,hw.put D N,q⟩
  ·exact h.elim
 ·--all others only compute
  split at h
  ·rename_i v C;exact L (v:=v) (By w hw.g.EX hw.env hw.jr M C) h
  ·exact h.elim
end
end Go.m7
namespace Go.m7
open Go
def Cm(P:Program)(T:fa)(E:List Nat)(ops:Array Oper)(o:Oper)(K:Fr->eD->Prop)(fr:Fr)(H:eD):Prop:=
 match o.guard with
 |none=>sx P T E o K fr H|some (j,want)=>
  match(ops[j]?).bind (·.dst)with
  |some d=>
   match fr.env d with
   |.sc (.bool b)=>if b=want then sx P T E o K fr H else K (fr.put o.dst (.tuple [])) H|.tuple _=>K (fr.put o.dst (.tuple [])) H|_=>False
  |none=>False
def ju(P:Program)(T:fa)(E:List Nat)(ops:Array Oper):List Oper->(Fr->eD->Prop)->Fr->eD->Prop
 |[],K,fr,H=>K fr H|o::rest,K,fr,H=>Cm P T E ops o (λfr H=>ju P T E ops rest K fr H) fr H
def x'(n:Nat)(ops:Array Oper):Bool:=ops.all (sl n)
section
variable{P:Program} {T:fa} {n:Nat} {G0:Nat->Nat} {F0:lF} {n0:Nat} {w0:World} {fr:Fr} {H:eD} {a:Act} {w:World}
def Eg{F:lF}{ρ:Maps}:hO F ρ (.tuple []) undef:=.p (.tuple (vs:=[]) .nil)
theorem SR.put(hs:SR T n G0 F0 n0 w0 fr H a w){d:Option Nat}(c:∀b,d=some b->b<n):SR T n G0 F0 n0 w0 (fr.put d (.tuple [])) H (a.put d undef) w:=by
 obtain⟨ρ,F,R,hw,e⟩:=hs;exact⟨ρ,F,R,hw.put c Eg,e⟩
def OJ(hs:SR T n G0 F0 n0 w0 fr H a w){ops:Array Oper}{j d:Nat}{b:Bool}(f:(ops[j]?).bind (·.dst)=some d)(he:fr.env d=.sc (.bool b)):yielded ops a.tmps j=some b:=by
 obtain⟨ρ,F,R,hw,g⟩:=hs;have h:=hw.env d;rw[he] at h;have c:=gK h;unfold yielded;rw[f];simp only[Wg];cases e:a.tmps[d]?with
 |none=>rw[Rb,e] at c;cases c
 |some v=>
  rw[Rb,e] at c;simp at c;subst c;rfl
def I7(hs:SR T n G0 F0 n0 w0 fr H a w){ops:Array Oper}{j d:Nat}{l:List AV}(b:(ops[j]?).bind (·.dst)=some d)(he:fr.env d=.tuple l):yielded ops a.tmps j=none:=by
 obtain⟨ρ,F,R,hw,e⟩:=hs;have h:=hw.env d;rw[he] at h;unfold yielded;rw[b];simp only[Wg];cases c:a.tmps[d]?with
 |none=>rfl|some v=>
  rw[Rb,c] at h;simp at h;cases h with
  |cell h=>cases h with|p h=>cases h;rfl
def El{E:List Nat}{ops:Array Oper}{i:Nat}{o:Oper}{K:Fr->eD->Prop}{Q:Exit->Act->World->Prop}(hi:ops[i]?=some o)(c:sl n o=true)(hs:SR T n G0 F0 n0 w0 fr H a w)
  (h:Cm P T E ops o K fr H) {N:Act->World->Prop} (g:∀fr' H' f w',K fr' H'->SR T n G0 F0 n0 w0 fr' H' f w'->N f w'):wpOp P ops Q i N a w:=by
 unfold wpOp;simp only[hi];unfold Cm at h
 split at h
 ·rename_i hg;rw[ee (by simp[Region.wanted,hg])];exact .inl (Oper.wp_mono (λf w' ⟨fr',H',k,e⟩=>g fr' H' f w' k e) (Ev c hs h))
 ·rename_i j want hg
  split at h
  ·rename_i d p
   split at h
   ·rename_i b he;have hy:=OJ hs p he
    split at h
    ·rename_i m;rw[ee (by simp[Region.wanted,hg,hy,m])];exact .inl (Oper.wp_mono (λf w' ⟨fr',H',k,e⟩=>g fr' H' f w' k e) (Ev c hs h))
    ·rename_i m;rw[ea (by simp[Region.wanted,hg,hy,m])];exact g _ _ _ _ h (hs.put (yf c))
   ·rename_i l he;have hy:=I7 hs p he;rw[ea (by simp[Region.wanted,hg,hy])];exact g _ _ _ _ h (hs.put (yf c))
   ·exact h.elim
  ·exact h.elim
def Ns{E:List Nat}{ops:Array Oper}{K:Fr->eD->Prop}{Q:Exit->Act->World->Prop}(b:x' n ops=true)
  (i:∀fr' H' e w',K fr' H'->SR T n G0 F0 n0 w0 fr' H' e w'->Q .normal e w'):∀(l:List Oper) (k:Nat) (fr:Fr) (H:eD) (a:Act) (w:World),l=ops.toList.drop k->SR T n G0 F0 n0 w0 fr H a w->ju P T E ops l K fr H->wpOps P ops Q (List.range' k l.length) a w:=by
 intro l
 induction l with
 |nil=>
  intro k fr H a w c hs h;simp only[um,List.range'_zero,wpOps];exact i _ _ _ _ h hs
 |cons o l j=>
  intro k fr H a w c hs h
  have d:k<ops.toList.length:=by
   rcases sH k ops.toList.length with h'|h'
   ·exact h'
   ·rw[IM h'] at c;cases c
  have m:=J1 d;rw[m] at c;injection c with p q
  have hi:ops[k]?=some o:=by
   rw[p];simp only[W4];exact LI (by simpa using d)
  simp only[ld,Rn];rw[wpOps_cons];have f:sl n o=true:=IS.1 b o (ON hi);refine El hi f hs h ?_;intro fr' H' e w' r g;exact j (k+1) fr' H' e w' q g r
end
def gJ(P:Program)(T:fa)(n:Nat)(c:Code)(Q:Exit->Fr->eD->Prop)(fr:Fr)(H:eD):Prop:=
 ∀G0 F0 n0 w0 a w,SR T n G0 F0 n0 w0 fr H a w->c.wp P (λe b w'=>∃fr' H',Q e fr' H'/\SR T n G0 F0 n0 w0 fr' H' b w') a w
def G5(K:Fr->eD->Prop)(Q:Exit->Fr->eD->Prop):Exit->Fr->eD->Prop
 |.normal,fr,H=>K fr H|e,fr,H=>Q e fr H
def G3(id:Nat)(Q:Exit->Fr->eD->Prop):Exit->Fr->eD->Prop
 |.exit a,fr,H=>if a=id then Q .normal fr H else Q (.exit a) fr H|e,fr,H=>Q e fr H
section
variable{P:Program} {T:fa} {n:Nat} {Q Q':Exit->Fr->eD->Prop} {fr:Fr} {H:eD}
theorem gJ.mono{c:Code}(h:gJ P T n c Q fr H)(b:∀e fr H,Q e fr H->Q' e fr H):gJ P T n c Q' fr H:=
 λG0 F0 n0 w0 a w hs=>wp_mono (h G0 F0 n0 w0 a w hs) λ_ _ _ ⟨fr',H',d,f⟩=>⟨fr',H',b _ _ _ d,f⟩
def gJ.skip(h:Q .normal fr H):gJ P T n .skip Q fr H:=λ_ _ _ _ _ _ hs=>wp_skip ⟨_,_,h,hs⟩
def gJ.label{l:Nat}(h:Q .normal fr H):gJ P T n (.label l) Q fr H:=λ_ _ _ _ _ _ hs=>wp_label ⟨_,_,h,hs⟩
def gJ.scope{c:Code}(h:gJ P T n c (λe fr H=>(match e with|.goto _=>False|_=>True)/\Q e fr H) fr H):gJ P T n (.scope c) Q fr H:=
 λG0 F0 n0 w0 a w hs=>wp_scope_straight (wp_mono (h G0 F0 n0 w0 a w hs) λe _ _ ⟨fr',H',b,d⟩=>by
  cases e<;>first|exact b.1.elim|exact⟨fr',H',b.2,d⟩)
def gJ.exit{id:Nat}(h:Q (.exit id) fr H):gJ P T n (.exit id) Q fr H:=λ_ _ _ _ _ _ hs=>wp_exit ⟨_,_,h,hs⟩
def gJ.ret(h:Q .ret fr H):gJ P T n .ret Q fr H:=λ_ _ _ _ _ _ hs=>wp_ret ⟨_,_,h,hs⟩
def gJ.seq{x y:Code}(h:gJ P T n x (G5 (gJ P T n y Q) Q) fr H):gJ P T n (.seq x y) Q fr H:=by
 intro G0 F0 n0 w0 a w hs;refine wp_seq (wp_mono (h G0 F0 n0 w0 a w hs) ?_);rintro e d w' ⟨fr',H',b,c⟩
 cases e<;>first|exact b G0 F0 n0 w0 d w' c|exact⟨fr',H',b,c⟩
def gJ.cond{c:Operand}{x y:Code}{t:Bool}(d:ev T fr c=.sc (.bool t))(f:jY c=true)(g:t=true->gJ P T n x Q fr H)(i:t=false->gJ P T n y Q fr H):gJ P T n (.cond c x y) Q fr H:=by
 intro G0 F0 n0 w0 a w hs;have b:=hs;obtain⟨ρ,F,R,hw,j⟩:=b;have h:=hW hw.env hw.jr c f;rw[d] at h;exact wp_cond_split (gK h) (λe=>g e G0 F0 n0 w0 a w hs) (λe=>i e G0 F0 n0 w0 a w hs)
def gJ.block{id:Nat}{c:Code}(h:gJ P T n c (G3 id Q) fr H):gJ P T n (.block id c) Q fr H:=by
 intro G0 F0 n0 w0 a w hs;refine wp_block (wp_mono (h G0 F0 n0 w0 a w hs) ?_);rintro e g w' ⟨fr',H',b,d⟩;cases e with
 |exit f=>
  simp only[G3,Exit.inBlock] at b|-
  split at b
  ·rename_i he;rw[ee he];exact⟨fr',H',b,d⟩
  ·rename_i he;rw[ea he];exact⟨fr',H',b,d⟩
 |_=>exact⟨fr',H',b,d⟩
def gJ.region{id:Nat}{ops:Array Oper}(E:List Nat)(b:x' n ops=true)(h:ju P T E ops ops.toList (Q .normal) fr H):gJ P T n (.region id ops false) Q fr H:=by
 intro G0 F0 n0 w0 a w hs;refine wp_region ?_;have:=Ns (Q:=λe c w'=>∃fr' H',Q e fr' H'/\SR T n G0 F0 n0 w0 fr' H' c w') b (λfr' H' c w' d f=>⟨fr',H',d,f⟩) ops.toList 0 fr H a w (by simp) hs h;rw[We];simpa using this
def V1(P:Program)(T:fa)(n:Nat)(c:Code)(Q:Exit->Fr->eD->Prop)(fr:Fr)(H:eD):Prop:=
 ∀G0 F0 n0 w0 a w,SR T n G0 F0 n0 w0 fr H a w->∀(b:Frame) (k:List Item) (cs:List Frame),∃e d w',(∃fr' H',Q e fr' H'/\SR T n G0 F0 n0 w0 fr' H' d w')/\Arrives P (lone (b.at a (.code c::.inLoop c::k)) cs w) b k cs e d w'
def gJ.loop{c:Code}(h:V1 P T n c Q fr H):gJ P T n (.loop c) Q fr H:=by
 intro G0 F0 n0 w0 a w hs b k cs;obtain⟨e,f,w',g,d⟩:=h G0 F0 n0 w0 a w hs b k cs;exact⟨e,f,w',g,.of_steps (.one step_loop) d⟩
theorem V1.round{c:Code}(h:gJ P T n c (G5 (V1 P T n c Q) Q) fr H):V1 P T n c Q fr H:=by
 intro G0 F0 n0 w0 a w hs b k cs;obtain⟨e,i,j,⟨fr',H',g,o⟩,d⟩:=h G0 F0 n0 w0 a w hs b (.inLoop c::k) cs
 have pass:∀e,e≠ .normal->Q e fr' H'->Arrives P (lone (b.at a (.code c::.inLoop c::k)) cs w) b (.inLoop c::k) cs e i j->∃e p w',(∃fr' H',Q e fr' H'/\SR T n G0 F0 n0 w0 fr' H' p w')/\Arrives P (lone (b.at a (.code c::.inLoop c::k)) cs w) b k cs e p w':=by
  intro e he q d;exact⟨e,i,j,⟨fr',H',q,o⟩,.pass (x:=.inLoop c) rfl (λ_ _=>.inl he) d⟩
 cases e with
 |normal=>
  have r:V1 P T n c Q fr' H':=g;obtain⟨s,t,u,m,f⟩:=r G0 F0 n0 w0 i j o b k cs;exact⟨s,t,u,m,.of_steps (Steps.trans d (.one step_inLoop)) f⟩
 |exit id=>exact pass _ (by simp) g d|goto l=>exact pass _ (by simp) g d|ret=>exact pass _ (by simp) g d|panic v=>exact pass _ (by simp) g d|outgrown=>exact pass _ (by simp) g d
end
def fr0(args:List AV):Fr:={env:=λt=>args.getD t (.tuple []),box:=λ_=>none,gen:=λ_=>0,tM:=λ_=>none,fN:=λ_=>0}
def Iw(P:Program)(fr:Fr)(H:eD):List ResultVar->Option (List AV)
 |[]=>some []|.tmp t::rest=>(Iw P fr H rest).map ((fr.env t).norm:: ·)|.cell a t::rest=>(uq P fr H t (fr.env a)).bind λv=>(Iw P fr H rest).map (v.norm:: ·)
def vd:List AV->AV
 |[x]=>x|l=>.tuple l
def vS(P:Program)(rs:List ResultVar)(Post:AV->eD->Prop):Exit->Fr->eD->Prop
 |.normal,fr,H|.ret,fr,H=>match Iw P fr H rs with
  |some l=>Post (vd l) H|none=>False
 |_,_,_=>False
section
variable{P:Program} {T:fa} {n:Nat} {fr:Fr} {H:eD} {a:Act} {w:World}
def Q9(tmps:Array Value)(x:ResultVar):Sem Value:=
 match x with
 |.tmp t=>pure (tmps.getD t undef)|.cell a t=>do loadVar t (<-asAddr (tmps.getD a undef))
def Df{t:TypeId}{u v:Value}(h:(Instr.loadAt t u).run P w=.ok v w):(do loadVar t (<-asAddr u)).run P w=.ok v w:=by
 unfold Instr.loadAt at h;cases u with
 |pointer p=>
  cases p with
  |none=>simp[Instr.sureAddr,iu,stuck,Sem.run,Result.andThen] at h
  |some a=>exact h
 |_=>simp[Instr.sureAddr,iu,stuck,Sem.run,Result.andThen] at h
def Rg{ρ:Maps}{F:lF}{R:Nat->pX}{B0:Nat}(h:WR T n B0 ρ F R fr H a w):∀(rs:List ResultVar) (l:List AV),Iw P fr H rs=some l->∃vs:List Value,(rs.mapM (Q9 a.tmps)).run P w=.ok vs w/\hU F ρ.G ρ.n l vs:=by
 intro rs
 induction rs with
 |nil=>intro l b;simp[Iw] at b;subst b;exact⟨[],rfl,.nil⟩
 |cons r rs k=>
  intro l b;cases r with
  |tmp t=>
   simp only[Iw,XT] at b;obtain⟨c,d,rfl⟩:=b;obtain⟨vs,f,g⟩:=k c d;refine⟨a.tmps.getD t undef::vs,?_,.cons (h.env t).norm g⟩;simp only[ZV,iu,Q9,pE,kf,f]
  |cell i t=>
   simp only[Iw,UP,XT] at b;obtain⟨v,m,c,d,rfl⟩:=b;obtain⟨vs,f,g⟩:=k c d;obtain⟨u,hu,o⟩:=JC h m (h.env i);refine⟨u::vs,?_,.cons o.norm g⟩;have j:=Df hu;simp only[ZV];rw[iu];have e:(Q9 a.tmps (.cell i t))=(do loadVar t (<-asAddr (a.tmps.getD i undef))):=rfl;rw[e,j,kf,iu,f];rfl
def M7{ρ:Maps}{F:lF}{R:Nat->pX}{B0:Nat}(h:WR T n B0 ρ F R fr H a w){fn:Func}{l:List AV}(c:Iw P fr H fn.results.toList=some l):∃v,(results fn a.tmps).run P w=.ok v w/\ib F ρ.G ρ.n (vd l) v:=by
 obtain⟨vs,d,f⟩:=Rg (P:=P) h _ _ c
 have e:results fn a.tmps=(do
   let vs<-fn.results.mapM (Q9 a.tmps)
   pure (if h:vs.size=1 then vs[0] else .tuple vs)):=rfl
 have hm:(fn.results.mapM (Q9 a.tmps)).run P w=.ok vs.toArray w:=by
  rw[<-XW (xs:=fn.results),NQ,run_map,d];rfl
 rw[e,iu,hm,kf,pE];refine⟨_,rfl,?_⟩;cases f with
 |nil=>exact .tuple (vs:=[]) .nil|cons b g=>
  cases g with
  |nil=>exact b|cons i j=>
   have:=ib.tuple (.cons b (.cons i j));simpa[vd] using this
open Classical in
def fG.intro{f:FuncId}{fn:Func}{c:Code}{args:List AV}{Post:AV->eD->Prop}(K:P.funcs[f]?=some fn)(M:fn.body=some c)(q:sw P f=true)(hlen:args.length<=fn.ntmps)
  (h:gJ P T fn.ntmps c (vS P fn.results.toList Post) (fr0 args) H):fG P T f args H Post:=by
 refine⟨q,λG F w vs hg E=>?_⟩;refine calls_of_wp K M ?_;have s:args.length=vs.length:=E.length
 let ρ:Maps:={G:=G,n:=H.length,L:=λ_ _=>0,lg:=λ_=>0,A:=λ_ _=>none,ag:=λ_=>0}
 let R:Nat->pX:=λb=>if∃o,o<H.length/\G o=b then .mc else .free
 have hw:WR T fn.ntmps w.heap.size ρ F R (fr0 args) H {tmps:=vs.toArray++Array.replicate (fn.ntmps-vs.toArray.size) undef,defers:=[]} w:=by
  refine⟨hg,?_,rfl,?_,rfl,λ_=>rfl,λ_=>rfl,?_,?_,?_,?_,?_,jo _⟩
  ·simp only[Array.size_append,Qc,Array.size_replicate];omega
  ·intro t;show hO F ρ (args.getD t (.tuple [])) _;rcases sH t args.length with ht|ht
   ·obtain⟨v,x,y⟩:=E.get (oD ht)
    have z:args.getD t (.tuple [])=args[t]:=by simp[ht]
    have B:(vs.toArray++Array.replicate (fn.ntmps-vs.toArray.size) undef).getD t undef=v:=by
     rw[Rb,Array.getElem?_append_left (by simpa[<-s] using ht)];simp[x]
    rw[z,B];exact .p y
   ·have z:args.getD t (.tuple [])=.tuple []:=by simp[U0 ht]
    have B:(vs.toArray++Array.replicate (fn.ntmps-vs.toArray.size) undef).getD t undef=undef:=by
     rw[Rb,Array.getElem?_append_right (by simpa[<-s] using ht),Array.getElem?_replicate]
     split<;>rfl
    rw[z,B];exact Eg
  ·intro d cs N;cases N
  ·intro k m O;cases O
  ·intro b j v x d;show(if∃o,o<H.length/\G o=b then pX.mc else .free)≠ .box d
   split<;>simp
  ·intro o C;show(if∃o',o'<H.length/\G o'=G o then pX.mc else .free)=.mc;rw[ee ⟨o,C,rfl⟩]
  ·intro b Q;show(if∃o,o<H.length/\G o=b then pX.mc else .free)=.free;rw[ea];rintro⟨o,C,rfl⟩;obtain⟨V,S,_⟩:=hg.mc o _ (oD C);have:=pU S;omega
 refine wp_mono (h G F H.length w _ w ⟨ρ,F,R,hw,Ext.refl⟩) ?_;rintro e I w' ⟨fr',H',a,ρ',F',W,i,D⟩
 have key:∀{l:List AV},Iw P fr' H' fn.results.toList=some l->Post (vd l) H'->I.defers=[]/\∃v,(results fn I.tmps).run P w'=.ok v w'/\∃r H' J G' F',Post r H'/\Ending.returned v=.returned J/\GW T G' F' H' w'/\ib F' G' H'.length r J/\Ext w.heap.size G F H.length w G' F' H'.length w':=by
  intro l u U;obtain⟨v,x,y⟩:=M7 i u;rw[i.hn] at y;exact⟨i.defers,v,x,_,_,v,_,_,U,rfl,i.g,y,D⟩
 cases e with
 |normal=>
  simp only[vS] at a
  split at a
  ·rename_i l u;exact key u a
  ·exact a.elim
 |ret=>
  simp only[vS] at a
  split at a
  ·rename_i l u;exact key u a
  ·exact a.elim
 |_=>exact a.elim
end
end Go.m7
