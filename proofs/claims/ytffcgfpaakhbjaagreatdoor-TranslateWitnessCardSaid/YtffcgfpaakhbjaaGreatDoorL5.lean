/- Part of the proof of TranslateWitness: layer. -/
import Derived.Laws.IdiomStrings
import Derived.Scope
import Derived.Test.YtffcgfpaakhbjaaGreatDoorL4
set_option linter.all false
namespace Go.jX
open Go
def jl(P:Program)(f:FuncId):Bool:=
 match P.funcs[f]?with
 |some fn=>fn.body.isSome&&fn.name != "runtime.NumGoroutine"
 |none=>false
def du(P:Program)(T:cW)(f:FuncId)(args:List AV)(H:cd)(Post:AV->cd->Prop):Prop:=
 jl P f=true/\∀(G:Nat->Nat) (F:jf) (w:World) (vs:List Value),GW T G F H w->eT F G H.length args vs->Calls P f vs.toArray w λe w'=>∃r H' v G' F',Post r H'/\e=.returned v/\GW T G' F' H' w'/\eE F' G' H'.length r v/\Ext w.heap.size G F H.length w G' F' H'.length w'
def dB(P:Program)(T:cW)(f:FuncId)(args:List AV)(H:cd)(r:AV)(H':cd):Prop:=du P T f args H λb a=>b=r/\a=H'
def du.mono{P:Program}{T:cW}{f:FuncId}{args:List AV}{H:cd}{Post Post':AV->cd->Prop}(h:du P T f args H Post)(a:∀r H',Post r H'->Post' r H'):du P T f args H Post':=
 ⟨h.1,λG F w vs hg b=>(h.2 G F w vs hg b).mono λ_ _ ⟨r,H',v,G',F',c,d⟩=>⟨r,H',v,G',F',a _ _ c,d⟩⟩
def dB.post{P:Program}{T:cW}{f:FuncId}{args:List AV}{H H':cd}{r:AV}{Post:AV->cd->Prop}(h:dB P T f args H r H')(a:Post r H'):du P T f args H Post:=
 du.mono h λe b ⟨c,d⟩=>by subst c;subst d;exact a
def jo(P:Program)(T:cW)(a:AV)(args:List AV)(H:cd)(Post:AV->cd->Prop):Prop:=
 match a with
 |.func (.func g) first cap=>du P T g (first++args++cap) H Post
 |_=>False
section
variable{P:Program} {T:cW} {n:Nat} {G0:Nat->Nat} {F0:jf} {n0:Nat} {w0:World} {fr:Fr} {H:cd} {a:Act} {w:World}
open Classical in
def WR.called{ρ:Maps}{F:jf}{R:Nat->mx}{B0:Nat}(h:WR T n B0 ρ F R fr H a w){G':Nat->Nat}{F':jf}{H':cd}{w':World}(hg:GW T G' F' H' w')
  (i:Ext w.heap.size ρ.G F H.length w G' F' H'.length w'):∃ρ' s,ρ'.G=G'/\ρ'.n=H'.length/\WR T n B0 ρ' F' s fr H' a w':=by
 let ρ':Maps:={ρ with G:=G',n:=H'.length}
 let s:Nat->mx:=λb=>if∃o,H.length<=o/\o<H'.length/\G' o=b then .kq else R b
 have x:C8 F F' ρ.G G' ρ.n H'.length:=by
  refine⟨λb o v D=>?_,by rw[h.hn];exact i.len,λo q=>i.hG o (by rw[<-h.hn];exact q)⟩;exact i.mF b o v (h.Z0 D) D
 have t:uh F F' ρ ρ':=⟨x,λ_=>fC _,λ_ _ _=>rfl,λ_=>fC _,λ_ _ _=>rfl⟩
 have f:∀b,b<w.heap.size->s b=R b:=by
  intro b hb;show(if∃o,H.length<=o/\o<H'.length/\G' o=b then mx.kq else R b)=R b;rw[bV];rintro⟨o,h1,p,rfl⟩;have:=i.JX o h1 p;omega
 have l:∀b,R b≠ .kq->∀o,o<H.length->ρ.G o≠b:=by
  rintro b hb o q rfl;exact hb (h.nQ o q)
 refine⟨ρ',s,rfl,rfl,⟨hg,h.size,h.defers,h.env.grow t,rfl,h.lg,h.ag,?_,?_,?_,?_,?_,Bw h.oV i.size⟩⟩
 ·intro d cs I;obtain⟨h1,p,y,vs,ty,r,z⟩:=h.box d cs I;have g:=nX r;exact⟨h1,by rw[f _ g];exact p,y,vs,ty,(i.heap _ g (l _ (by rw[p];simp))).trans r,z.mono λ_ _ _ h=>h.grow t⟩
 ·intro k m J b c sz K;obtain⟨h1,p,y,A,⟨vs,ty,r,z⟩,L⟩:=h.tok k m J b c sz K;have g:=nX r;refine⟨h1,by rw[f _ g];exact p,y,A,⟨vs,ty,(i.heap _ g (l _ (by rw[p];simp))).trans r,z⟩,λj M=>?_⟩;rw[i.hF b j g (l _ (by rw[p];simp))];exact L j M
 ·intro b j v E;rcases rI b w.heap.size with hb|hb
  ·rw[f b hb]
   by_cases u:∃o,o<H.length/\ρ.G o=b
   ·obtain⟨o,q,rfl⟩:=u;rw[h.nQ o q];simp
   ·rw[i.hF b j hb λo q e=>u ⟨o,q,e⟩] at E;exact h.qi b j v E
  ·intro d;show(if∃o,H.length<=o/\o<H'.length/\G' o=b then mx.kq else R b)≠ .box d
   split
   ·simp
   ·rw[h.kv b hb];simp
 ·intro o q;rcases rI o H.length with h1|h1
  ·have B:=h.nQ o h1
   have g:ρ.G o<w.heap.size:=by
    rcases rI (ρ.G o) w.heap.size with h'|h'
    ·exact h'
    ·rw[h.kv _ h'] at B;cases B
   show s (G' o)=.kq;rw[i.hG o h1,f _ g];exact B
  ·show(if∃o',H.length<=o'/\o'<H'.length/\G' o'=G' o then mx.kq else R (G' o))=.kq;rw[bX ⟨o,h1,q,rfl⟩]
 ·intro b hb;show(if∃o,H.length<=o/\o<H'.length/\G' o=b then mx.kq else R b)=.free;rw[bV]
  ·exact h.kv b (Bw i.size hb)
  ·rintro⟨o,h1,p,rfl⟩;have C:H'[o]?=some H'[o]:=lV p;obtain⟨N,r,_⟩:=hg.kq o _ C;have:=nX r;omega
end
def Ed(E:List Nat)(dst:Option Nat)(v:AV)(K:Fr->cd->Prop)(fr:Fr)(H:cd):Prop:=
 if dst.any E.contains then(match v with|.slice _ l=>K (fr.put dst (.nU H.length 0 l.length l.length)) (H++[l.flatMap AV.cells])|_=>False)else K (fr.put dst v) H
def IW(P:Program)(dst:Option Nat)(s d:TypeId)(x:AV)(K:Fr->cd->Prop)(fr:Fr)(H:cd):Prop:=
 match Jg P s d x with
 |some v=>K (fr.put dst v) H|none=>match P.underlying s,P.underlying d,x with
  |some .string,some (.slice e),.sc (.string y)=>P.underlying e=some (.int .u8)/\y.size<=gN/\∀cap k,y.size<=cap->K (fr.put dst (.nU H.length 0 y.size cap)) (H++[m9 y++pR k])|_,_,_=>False
def o_(P:Program)(T:cW)(E:List Nat)(o:Oper)(K:Fr->cd->Prop)(fr:Fr)(H:cd):Prop:=
 match o.op with
 |.alloc t=>match fV P t with
  |some z=>iS E o.dst z K fr H|none=>False
 |.box _ x=>dj (ev T fr x)=true/\iS E o.dst (ev T fr x).cells K fr H|.load t x=>match rN P fr H t (ev T fr x)with
  |some v=>K (fr.put o.dst v) H|none=>False
 |.store t x y=>o.dst=none/\j0 P t (ev T fr x) (ev T fr y) K fr H|.buildSlice t n ps=>match k8 P t n (ps.toList.map λp=>(p.1,ev T fr p.2))with
  |some v=>Ed E o.dst v K fr H|none=>False
 |.makeSlice t l c=>match vJ P t (ev T fr l) (ev T fr c)with
  |some v=>K (fr.put o.dst v) H|none=>False
 |.convert s d x=>IW P o.dst s d (ev T fr x) K fr H|.call c=>match c.callee with
  |.builtin .append=>(ld P T c o.dst K fr H\/A0 P T c o.dst K fr H)\/An P T c o.dst K fr H\/m4 P T c o.dst K fr H|.builtin _=>match rO P T fr c with
   |some v=>K (fr.put o.dst v) H|none=>False
  |.value f=>jo P T (ev T fr f) (c.args.toList.map λx=>(ev T fr x).norm) H λr H'=>K (fr.put o.dst r) H'|.invoke _ _=>False
 |.makeMap _ none=>EW o.dst K fr H|.mapUpdate t m k x=>o.dst=none/\vH P t (ev T fr m) (ev T fr k) (ev T fr x) K fr H|.insert t m k x=>o.dst=none/\vH P t (ev T fr m) (ev T fr k) (ev T fr x) K fr H|.lookup t x i ok=>match DG P H t (ev T fr x) (ev T fr i) ok with
  |some v=>K (fr.put o.dst v) H|none=>False
 |.range t x=>DW P t (ev T fr x) o.dst K fr H|.next it false=>He (ev T fr it) o.dst K fr H|.entry it=>match Bt (ev T fr it) H with
  |some v=>K (fr.put o.dst v) H|none=>False
 |_=>match vb P T fr o with
  |some v=>K (fr.put o.dst v) H|none=>False
def p6(n:Nat)(o:Oper):Bool:=o.dst.all (λd=>decide (d<n))&&o.op.operands.all gE
def v7{n:Nat}{o:Oper}(h:p6 n o=true):∀d,o.dst=some d->d<n:=by
 intro d a;simp only[p6,ed] at h;rw[a] at h;simpa using h.1
def JR{n:Nat}{o:Oper}(h:p6 n o=true):o.op.operands.all gE=true:=by
 simp only[p6,ed] at h;exact h.2
section
variable{P:Program} {T:cW} {n:Nat} {G0:Nat->Nat} {F0:jf} {n0:Nat} {w0:World} {fr:Fr} {H:cd} {a:Act} {w:World}
def IQ(w:World){f:FuncId}(h:jl P f=true)(args:Array Value):(callFunc f args).run P w=.ok (.enter f args) w:=by
 unfold jl at h
 split at h
 ·rename_i fn b;simp only[ed,bne_iff_ne,ne_eq] at h;simp[callFunc,program,Sem.run,b,h.2];intro a;rw[a] at h;simp at h
 ·cases h
def FL{ρ:Maps}{F:jf}{R:Nat->mx}(h:WR T n w0.heap.size ρ F R fr H a w)(m:Ext w0.heap.size G0 F0 n0 w0 ρ.G F H.length w)(s d:TypeId){e:TypeId}(y:ByteArray)(hs:P.underlying s=some .string)(p:P.underlying d=some (.slice e))
  (he:P.underlying e=some (.int .u8)) (f:y.size<=gN) {dst:Option Nat} (g:∀d,dst=some d->d<n):∃w',(convert s d (.string y)).run P w=.ok (.slice (some ⟨w.heap.size,0,none⟩) y.size (grownCap w y.size 0 e)) w'/\SR T n G0 F0 n0 w0 (fr.put dst (.nU H.length 0 y.size (grownCap w y.size 0 e))) (H++[m9 y++pR (grownCap w y.size 0 e-y.size)]) (a.put dst (.slice (some ⟨w.heap.size,0,none⟩) y.size (grownCap w y.size 0 e))) w':=by
 have i:=grownCap_ge w y.size 0 e;have hle:=grownCap_le_maxLen w y.size 0 e (by have:y.size<=1099511627776:=f;simp only[maxLen];omega);refine⟨_,run_bytes_of_string w s d e y hs p he,qb h.drew m.drew (.cells (.inr (fC _)) ?_ ?_) g ?_⟩
 ·have q:(bytesRow y (grownCap w y.size 0 e)).toList=Lib.strCells y++List.replicate (grownCap w y.size 0 e-y.size) (.int .u8 0):=by
   simp[bytesRow,Lib.strCells]
  rw[q];refine .append ?_ ?_
  ·have r:=(s7 (F:=F) (G:=ρ.G) (k:=ρ.n) (Lib.strCells y) (λv t=>by obtain⟨b,_,rfl⟩:=kI.1 t;rfl)).rL
   have u:(Lib.strCells y).map AV.sc=m9 y:=by simp[Lib.strCells,m9]
   rwa [u] at r
  ·generalize grownCap w y.size 0 e-y.size=k
   induction k with
   |zero=>exact .nil|succ k x=>
    show eM _ (List.replicate (k+1) AV.undef) (List.replicate (k+1) _);rw[RA,RA];exact .cons (.undef rfl) x
 ·intro c hc;rcases pX.1 hc with hc|hc
  ·obtain⟨b,_,rfl⟩:=kI.1 hc;rfl
  ·exact vk _ c hc
 ·intro ρ' hG j l;have:=eE.nU (F:=F) (G:=ρ'.G) (n:=ρ'.n) (o:=H.length) (off:=0) (len:=y.size) (cap:=grownCap w y.size 0 e) (by rw[l];omega) i hle;rw[j] at this;exact this
def Ce{E:List Nat}{o:Oper}{K:Fr->cd->Prop}{Q:Exit->Act->World->Prop}(U:p6 n o=true)(hs:SR T n G0 F0 n0 w0 fr H a w)(h:o_ P T E o K fr H):o.wp P a w (λZ w'=>∃fr' H',K fr' H'/\SR T n G0 F0 n0 w0 fr' H' Z w') Q:=by
 obtain⟨ρ,F,R,hw,A⟩:=hs;have D:=v7 U;have N:=JR U
 have M:∀{v:AV},(∃u,(execOp a.eval o).run P w=.ok (.value u) w/\ej F ρ v u)->K (fr.put o.dst v) H->o.wp P a w (λZ w'=>∃fr' H',K fr' H'/\SR T n G0 F0 n0 w0 fr' H' Z w') Q:=by
  rintro v ⟨u,O,hu⟩ J;unfold Oper.wp;rw[O];exact⟨_,_,J,ρ,F,R,hw.put D hu,A⟩
 have q:∀{s:Sem Value} {u:Value} {w':World},execOp a.eval o=(do pure (.value (<-s)))->s.run P w=.ok u w'->(∃fr' H',K fr' H'/\SR T n G0 F0 n0 w0 fr' H' (a.put o.dst u) w')->o.wp P a w (λZ w'=>∃fr' H',K fr' H'/\SR T n G0 F0 n0 w0 fr' H' Z w') Q:=by
  intro s u w' he O J;unfold Oper.wp;rw[he,eS,O];exact J
 obtain⟨dst,op,type,pos,after,guard⟩:=o;simp only at N D;have j:∀x∈op.operands,gE x=true:=λx A=>F1.1 N x A;unfold o_ at h;simp only at h
 split at h
 ·--alloc
  rename_i t
  split at h
  ·rename_i cells ai;obtain⟨z,hz,ak,an,rfl⟩:=Hh ai;have ao:=h
   have aq:∀vs,z≠ .tuple vs:=by rintro vs rfl;simp[ofValue,dj] at an
   obtain⟨aa,ar⟩:=y0 ak aq;refine q (s:=Instr.alloc t true (.tuple #[])) rfl (Lf w hz) ?_;refine B_ hw A ao D t ?_ ?_
   ·rw[aa];exact(oF F ρ.G ρ.n _ ar).rL.mono λ_ _ _ h=>.p h
   ·rw[aa];intro c W;obtain⟨u,_,rfl⟩:=kI.1 W;exact vD u
  ·exact h.elim
 ·--box
  rename_i t x;obtain⟨h1,h2⟩:=h;have I:=eg hw.env hw.fp x (j x (by simp[Op.operands]));exact q (s:=Instr.box t (a.eval x)) rfl rfl (B_ hw A h2 D t (I.cells (fS h1)) (I.pU (fS h1)))
 ·--load
  rename_i t x
  split at h
  ·rename_i v C;have I:=eg hw.env hw.fp x (j x (by simp[Op.operands]));obtain⟨u,hu,O⟩:=G8 hw C I;exact q (s:=Instr.loadAt t (a.eval x)) rfl hu ⟨_,_,h,ρ,F,R,hw.put D O,A⟩
  ·exact h.elim
 ·--store
  rename_i t x y;obtain⟨L,h⟩:=h;subst L;have I:=eg hw.env hw.fp x (j x (by simp[Op.operands]));have aw:=eg hw.env hw.fp y (j y (by simp[Op.operands]));obtain⟨fr',H',w',b,J,hs⟩:=Kq hw A h I aw;unfold Oper.wp;have e:execOp a.eval {dst:=none,op:=.store t x y,type:=type,pos:=pos,after:=after,guard:=guard}=(do Instr.storeAt t (a.eval x) (a.eval y);pure .skip):=rfl;rw[e,eS,b];exact⟨fr',H',J,hs⟩
 ·--buildSlice
  rename_i t k ps
  split at h
  ·rename_i v C;have hp:=Ft hw.env hw.fp ps.toList λp hp=>j p.2 (by simp[Op.operands];exact⟨p.1,by simpa using hp⟩)
   have e:(ps.toList.map λp=>(p.1,a.eval p.2)).toArray=ps.map λp=>(p.1,a.eval p.2):=by rw[<-I6,MI]
   unfold Ed at h
   split at h
   ·split at h
    ·obtain⟨u,w',b,hs⟩:=AT hw A C hp D;rw[e] at b;unfold Oper.wp;simp only[execOp,eS,b,gH];exact⟨_,_,h,hs⟩
    ·exact h.elim
   ·obtain⟨u,w',b,hs⟩:=Bo hw A C hp D;rw[e] at b;unfold Oper.wp;simp only[execOp,eS,b,gH];exact⟨_,_,h,hs⟩
  ·exact h.elim
 ·--makeSlice
  rename_i t l c
  split at h
  ·rename_i v C;obtain⟨u,w',b,hs⟩:=C' hw A C (eg hw.env hw.fp l (j l (by simp[Op.operands]))) (eg hw.env hw.fp c (j c (by simp[Op.operands]))) D;exact q (s:=Instr.makeSlice t (a.eval l) (a.eval c)) rfl b ⟨_,_,h,hs⟩
  ·exact h.elim
 ·--convert
  rename_i t d x;have I:=eg hw.env hw.fp x (j x (by simp[Op.operands]));unfold IW at h
  split at h
  ·rename_i v C;refine M (v:=v) (zr w hw.g.Ea hw.env hw.fp N ?_) h;simp only[vb];exact C
  ·split at h
   ·rename_i e y hs ax ay;obtain⟨he,ab,h⟩:=h;rw[ay] at I;have C:=dS I;obtain⟨w',b,az⟩:=FL hw A t d y hs ax he ab D;refine q (s:=convert t d (a.eval x)) rfl (by rw[C];exact b) ⟨_,_,h _ _ (by simpa using grownCap_ge w y.size 0 e),az⟩
   ·exact h.elim
 ·--call
  rename_i c;obtain⟨callee,args,argTypes⟩:=c;have B:∀x∈args.toList,gE x=true:=λx A=>j x (by simp[Op.operands,Call.operands,uS.1 A])
  split at h
  ·--append
   rename_i W;simp only at W;subst W;obtain⟨u,w',fr',H',b,J,hs⟩:=h.elim (λh=>h.elim (λh=>IF (ty:=type) hw A h D B) (λh=>Gp (ty:=type) hw A h D B)) (λh=>h.elim (λh=>Gy (ty:=type) hw A h D B) (λh=>Gq (ty:=type) hw A h D B));unfold Oper.wp execOp;simp only[resolve,invoke,builtin,eS,mC,gH];rw[b];exact⟨fr',H',J,hs⟩
  ·--ad builtin
   split at h
   ·rename_i v C;refine M (v:=v) (zr w hw.g.Ea hw.env hw.fp N ?_) h;simp only[vb];exact C
   ·exact h.elim
  ·--a V value
   rename_i f W;simp only at W;subst W;unfold jo at h;have ae:=eg hw.env hw.fp f (j f (by simp[Op.operands,Call.operands]))
   split at h
   ·rename_i g first cap hf
    rw[hf] at ae;obtain⟨vf,vc,C,aA,aB⟩:=yk ae;obtain⟨af,X⟩:=h;have S:=Eu hw.env hw.fp args.toList B
    have Y:eT F ρ.G H.length (first++(args.toList.map λx=>(ev T fr x).norm)++cap) (vf++args.toList.map a.eval++vc):=by
     rw[<-hw.hn];exact((eT.m6 aA).append S).append (.m6 aB)
    have hC:=X ρ.G F w _ hw.g Y;unfold Oper.wp
    have e:(execOp a.eval {dst:=dst,op:=.call {callee:=.value f,args:=args,argTypes:=argTypes},type:=type,pos:=pos,after:=after,guard:=guard}).run P w=.ok (.enter g (vf++args.toList.map a.eval++vc).toArray) w:=by
     simp only[execOp,resolve,eS];rw[C];simp only[Deferred.ofValue,mC,gH,invoke];rw[IQ w af]
     congr 2
     apply zX.1;simp
    rw[e];show Calls P g _ w _;refine hC.mono ?_;rintro e' w' ⟨r,H',v,G',F',J,rfl,aC,aD,ah⟩;obtain⟨ρ',R',hG,aE,aF⟩:=hw.called aC ah;refine⟨_,_,J,ρ',F',R',aF.put D (.p ?_),?_⟩
    ·rw[hG,aE];exact aD
    ·rw[hG];exact A.trans (ah.mono hw.oV)
   ·exact h.elim
  ·exact h.elim
 ·--makeMap
  obtain⟨v,w',b,hs⟩:=FT (P:=P) hw A D;exact q (s:=Instr.makeMap _ none) rfl b ⟨_,_,h,hs⟩
 ·--mapUpdate
  rename_i t m k x;obtain⟨L,h⟩:=h;subst L;obtain⟨fr',H',w',b,J,hs⟩:=AU hw A h (eg hw.env hw.fp m (j m (by simp[Op.operands]))) (eg hw.env hw.fp k (j k (by simp[Op.operands]))) (eg hw.env hw.fp x (j x (by simp[Op.operands])));unfold Oper.wp;have e:execOp a.eval {dst:=none,op:=.mapUpdate t m k x,type:=type,pos:=pos,after:=after,guard:=guard}=(do Instr.mapUpdate t (a.eval m) (a.eval k) (a.eval x);pure .skip):=rfl;rw[e,eS,b];exact⟨fr',H',J,hs⟩
 ·--insert
  rename_i t m k x;obtain⟨L,h⟩:=h;subst L;obtain⟨fr',H',w',b,J,hs⟩:=AU hw A h (eg hw.env hw.fp m (j m (by simp[Op.operands]))) (eg hw.env hw.fp k (j k (by simp[Op.operands]))) (eg hw.env hw.fp x (j x (by simp[Op.operands])));unfold Oper.wp;have e:execOp a.eval {dst:=none,op:=.insert t m k x,type:=type,pos:=pos,after:=after,guard:=guard}=(do Instr.mapUpdate t (a.eval m) (a.eval k) (a.eval x);pure .skip):=rfl;rw[e,eS,b];exact⟨fr',H',J,hs⟩
 ·--lookup
  rename_i t x i ok
  split at h
  ·rename_i v C;obtain⟨u,hu,O⟩:=Jp hw C (eg hw.env hw.fp x (j x (by simp[Op.operands]))) (eg hw.env hw.fp i (j i (by simp[Op.operands])));exact q (s:=Instr.lookup t (a.eval x) (a.eval i) ok) rfl hu ⟨_,_,h,ρ,F,R,hw.put D O,A⟩
  ·exact h.elim
 ·--range
  rename_i t x;obtain⟨v,w',fr',H',b,J,hs⟩:=Jt hw A h D (eg hw.env hw.fp x (j x (by simp[Op.operands])));exact q (s:=Instr.range t (a.eval x)) rfl b ⟨_,_,J,hs⟩
 ·--next
  rename_i it;obtain⟨v,w',fr',H',b,J,hs⟩:=MF hw A type h D (eg hw.env hw.fp it (j it (by simp[Op.operands])));exact q (s:=Instr.next (a.eval it) false type) rfl b ⟨_,_,J,hs⟩
 ·--entry
  rename_i it
  split at h
  ·rename_i v C;obtain⟨u,hu,O⟩:=Lb (P:=P) hw C (eg hw.env hw.fp it (j it (by simp[Op.operands])));exact q (s:=Instr.entry (a.eval it)) rfl hu ⟨_,_,h,ρ,F,R,hw.put D O,A⟩
  ·exact h.elim
 ·--all others only compute
  split at h
  ·rename_i v C;exact M (v:=v) (zr w hw.g.Ea hw.env hw.fp N C) h
  ·exact h.elim
end
end Go.jX
namespace Go.jX
open Go
def Ch(P:Program)(T:cW)(E:List Nat)(ops:Array Oper)(o:Oper)(K:Fr->cd->Prop)(fr:Fr)(H:cd):Prop:=
 match o.guard with
 |none=>o_ P T E o K fr H|some (j,want)=>
  match(ops[j]?).bind (·.dst)with
  |some d=>
   match fr.env d with
   |.sc (.bool b)=>if b=want then o_ P T E o K fr H else K (fr.put o.dst (.tuple [])) H|.tuple _=>K (fr.put o.dst (.tuple [])) H|_=>False
  |none=>False
def fl(P:Program)(T:cW)(E:List Nat)(ops:Array Oper):List Oper->(Fr->cd->Prop)->Fr->cd->Prop
 |[],K,fr,H=>K fr H|o::rest,K,fr,H=>Ch P T E ops o (λfr H=>fl P T E ops rest K fr H) fr H
def xr(n:Nat)(ops:Array Oper):Bool:=ops.all (p6 n)
section
variable{P:Program} {T:cW} {n:Nat} {G0:Nat->Nat} {F0:jf} {n0:Nat} {w0:World} {fr:Fr} {H:cd} {a:Act} {w:World}
def Cw{F:jf}{ρ:Maps}:ej F ρ (.tuple []) undef:=.p (.tuple (vs:=[]) .nil)
def SR.put(hs:SR T n G0 F0 n0 w0 fr H a w){d:Option Nat}(c:∀b,d=some b->b<n):SR T n G0 F0 n0 w0 (fr.put d (.tuple [])) H (a.put d undef) w:=by
 obtain⟨ρ,F,R,hw,e⟩:=hs;exact⟨ρ,F,R,hw.put c Cw,e⟩
def LL(hs:SR T n G0 F0 n0 w0 fr H a w){ops:Array Oper}{j d:Nat}{b:Bool}(f:(ops[j]?).bind (·.dst)=some d)(he:fr.env d=.sc (.bool b)):yielded ops a.tmps j=some b:=by
 obtain⟨ρ,F,R,hw,g⟩:=hs;have h:=hw.env d;rw[he] at h;have c:=dS h;unfold yielded;rw[f];simp only[WT];cases e:a.tmps[d]?with
 |none=>rw[H7,e] at c;cases c
 |some v=>
  rw[H7,e] at c;simp at c;subst c;rfl
def Gu(hs:SR T n G0 F0 n0 w0 fr H a w){ops:Array Oper}{j d:Nat}{l:List AV}(b:(ops[j]?).bind (·.dst)=some d)(he:fr.env d=.tuple l):yielded ops a.tmps j=none:=by
 obtain⟨ρ,F,R,hw,e⟩:=hs;have h:=hw.env d;rw[he] at h;unfold yielded;rw[b];simp only[WT];cases c:a.tmps[d]?with
 |none=>rfl|some v=>
  rw[H7,c] at h;simp at h;cases h with
  |cell h=>cases h with|p h=>cases h;rfl
def B6{E:List Nat}{ops:Array Oper}{i:Nat}{o:Oper}{K:Fr->cd->Prop}{Q:Exit->Act->World->Prop}(hi:ops[i]?=some o)(c:p6 n o=true)(hs:SR T n G0 F0 n0 w0 fr H a w)
  (h:Ch P T E ops o K fr H) {N:Act->World->Prop} (g:∀fr' H' f w',K fr' H'->SR T n G0 F0 n0 w0 fr' H' f w'->N f w'):wpOp P ops Q i N a w:=by
 unfold wpOp;simp only[hi];unfold Ch at h
 split at h
 ·rename_i hg;rw[bX (by simp[Region.wanted,hg])];exact .inl (Oper.wp_mono (λf w' ⟨fr',H',k,e⟩=>g fr' H' f w' k e) (Ce c hs h))
 ·rename_i j want hg
  split at h
  ·rename_i d p
   split at h
   ·rename_i b he;have hy:=LL hs p he
    split at h
    ·rename_i m;rw[bX (by simp[Region.wanted,hg,hy,m])];exact .inl (Oper.wp_mono (λf w' ⟨fr',H',k,e⟩=>g fr' H' f w' k e) (Ce c hs h))
    ·rename_i m;rw[bV (by simp[Region.wanted,hg,hy,m])];exact g _ _ _ _ h (hs.put (v7 c))
   ·rename_i l he;have hy:=Gu hs p he;rw[bV (by simp[Region.wanted,hg,hy])];exact g _ _ _ _ h (hs.put (v7 c))
   ·exact h.elim
  ·exact h.elim
def Ll{E:List Nat}{ops:Array Oper}{K:Fr->cd->Prop}{Q:Exit->Act->World->Prop}(b:xr n ops=true)
  (i:∀fr' H' e w',K fr' H'->SR T n G0 F0 n0 w0 fr' H' e w'->Q .normal e w'):∀(l:List Oper) (k:Nat) (fr:Fr) (H:cd) (a:Act) (w:World),l=ops.toList.drop k->SR T n G0 F0 n0 w0 fr H a w->fl P T E ops l K fr H->wpOps P ops Q (List.range' k l.length) a w:=by
 intro l
 induction l with
 |nil=>
  intro k fr H a w c hs h;simp only[uo,List.range'_zero,wpOps];exact i _ _ _ _ h hs
 |cons o l j=>
  intro k fr H a w c hs h
  have d:k<ops.toList.length:=by
   rcases rI k ops.toList.length with h'|h'
   ·exact h'
   ·rw[Ep h'] at c;cases c
  have m:=Je d;rw[m] at c;injection c with p q
  have hi:ops[k]?=some o:=by
   rw[p];simp only[Zb];exact Qu (by simpa using d)
  simp only[jK,WS];rw[wpOps_cons];have f:p6 n o=true:=F1.1 b o (QI hi);refine B6 hi f hs h ?_;intro fr' H' e w' r g;exact j (k+1) fr' H' e w' q g r
end
def fb(P:Program)(T:cW)(n:Nat)(c:Code)(Q:Exit->Fr->cd->Prop)(fr:Fr)(H:cd):Prop:=
 ∀G0 F0 n0 w0 a w,SR T n G0 F0 n0 w0 fr H a w->c.wp P (λe b w'=>∃fr' H',Q e fr' H'/\SR T n G0 F0 n0 w0 fr' H' b w') a w
def AH(K:Fr->cd->Prop)(Q:Exit->Fr->cd->Prop):Exit->Fr->cd->Prop
 |.normal,fr,H=>K fr H|e,fr,H=>Q e fr H
def E2(id:Nat)(Q:Exit->Fr->cd->Prop):Exit->Fr->cd->Prop
 |.exit a,fr,H=>if a=id then Q .normal fr H else Q (.exit a) fr H|e,fr,H=>Q e fr H
section
variable{P:Program} {T:cW} {n:Nat} {Q Q':Exit->Fr->cd->Prop} {fr:Fr} {H:cd}
def fb.mono{c:Code}(h:fb P T n c Q fr H)(b:∀e fr H,Q e fr H->Q' e fr H):fb P T n c Q' fr H:=
 λG0 F0 n0 w0 a w hs=>wp_mono (h G0 F0 n0 w0 a w hs) λ_ _ _ ⟨fr',H',d,f⟩=>⟨fr',H',b _ _ _ d,f⟩
def fb.skip(h:Q .normal fr H):fb P T n .skip Q fr H:=λ_ _ _ _ _ _ hs=>wp_skip ⟨_,_,h,hs⟩
def fb.label{l:Nat}(h:Q .normal fr H):fb P T n (.label l) Q fr H:=λ_ _ _ _ _ _ hs=>wp_label ⟨_,_,h,hs⟩
def fb.scope{c:Code}(h:fb P T n c (λe fr H=>(match e with|.goto _=>False|_=>True)/\Q e fr H) fr H):fb P T n (.scope c) Q fr H:=
 λG0 F0 n0 w0 a w hs=>wp_scope_straight (wp_mono (h G0 F0 n0 w0 a w hs) λe _ _ ⟨fr',H',b,d⟩=>by
  cases e<;>first|exact b.1.elim|exact⟨fr',H',b.2,d⟩)
def fb.exit{id:Nat}(h:Q (.exit id) fr H):fb P T n (.exit id) Q fr H:=λ_ _ _ _ _ _ hs=>wp_exit ⟨_,_,h,hs⟩
def fb.ret(h:Q .ret fr H):fb P T n .ret Q fr H:=λ_ _ _ _ _ _ hs=>wp_ret ⟨_,_,h,hs⟩
def fb.seq{x y:Code}(h:fb P T n x (AH (fb P T n y Q) Q) fr H):fb P T n (.seq x y) Q fr H:=by
 intro G0 F0 n0 w0 a w hs;refine wp_seq (wp_mono (h G0 F0 n0 w0 a w hs) ?_);rintro e d w' ⟨fr',H',b,c⟩
 cases e<;>first|exact b G0 F0 n0 w0 d w' c|exact⟨fr',H',b,c⟩
def fb.cond{c:Operand}{x y:Code}{t:Bool}(d:ev T fr c=.sc (.bool t))(f:gE c=true)(g:t=true->fb P T n x Q fr H)(i:t=false->fb P T n y Q fr H):fb P T n (.cond c x y) Q fr H:=by
 intro G0 F0 n0 w0 a w hs;have b:=hs;obtain⟨ρ,F,R,hw,j⟩:=b;have h:=eg hw.env hw.fp c f;rw[d] at h;exact wp_cond_split (dS h) (λe=>g e G0 F0 n0 w0 a w hs) (λe=>i e G0 F0 n0 w0 a w hs)
def fb.block{id:Nat}{c:Code}(h:fb P T n c (E2 id Q) fr H):fb P T n (.block id c) Q fr H:=by
 intro G0 F0 n0 w0 a w hs;refine wp_block (wp_mono (h G0 F0 n0 w0 a w hs) ?_);rintro e g w' ⟨fr',H',b,d⟩;cases e with
 |exit f=>
  simp only[E2,Exit.inBlock] at b|-
  split at b
  ·rename_i he;rw[bX he];exact⟨fr',H',b,d⟩
  ·rename_i he;rw[bV he];exact⟨fr',H',b,d⟩
 |_=>exact⟨fr',H',b,d⟩
def fb.region{id:Nat}{ops:Array Oper}(E:List Nat)(b:xr n ops=true)(h:fl P T E ops ops.toList (Q .normal) fr H):fb P T n (.region id ops false) Q fr H:=by
 intro G0 F0 n0 w0 a w hs;refine wp_region ?_;have:=Ll (Q:=λe c w'=>∃fr' H',Q e fr' H'/\SR T n G0 F0 n0 w0 fr' H' c w') b (λfr' H' c w' d f=>⟨fr',H',d,f⟩) ops.toList 0 fr H a w th hs h;rw[Tf];simpa using this
def VO(P:Program)(T:cW)(n:Nat)(c:Code)(Q:Exit->Fr->cd->Prop)(fr:Fr)(H:cd):Prop:=
 ∀G0 F0 n0 w0 a w,SR T n G0 F0 n0 w0 fr H a w->∀(b:Frame) (k:List Item) (cs:List Frame),∃e d w',(∃fr' H',Q e fr' H'/\SR T n G0 F0 n0 w0 fr' H' d w')/\Arrives P (lone (b.at a (.code c::.inLoop c::k)) cs w) b k cs e d w'
def fb.loop{c:Code}(h:VO P T n c Q fr H):fb P T n (.loop c) Q fr H:=by
 intro G0 F0 n0 w0 a w hs b k cs;obtain⟨e,f,w',g,d⟩:=h G0 F0 n0 w0 a w hs b k cs;exact⟨e,f,w',g,.of_steps (.one step_loop) d⟩
def VO.round{c:Code}(h:fb P T n c (AH (VO P T n c Q) Q) fr H):VO P T n c Q fr H:=by
 intro G0 F0 n0 w0 a w hs b k cs;obtain⟨e,i,j,⟨fr',H',g,o⟩,d⟩:=h G0 F0 n0 w0 a w hs b (.inLoop c::k) cs
 have pass:∀e,e≠ .normal->Q e fr' H'->Arrives P (lone (b.at a (.code c::.inLoop c::k)) cs w) b (.inLoop c::k) cs e i j->∃e p w',(∃fr' H',Q e fr' H'/\SR T n G0 F0 n0 w0 fr' H' p w')/\Arrives P (lone (b.at a (.code c::.inLoop c::k)) cs w) b k cs e p w':=by
  intro e he q d;exact⟨e,i,j,⟨fr',H',q,o⟩,.pass (x:=.inLoop c) rfl (λ_ _=>.inl he) d⟩
 cases e with
 |normal=>
  have r:VO P T n c Q fr' H':=g;obtain⟨s,t,u,m,f⟩:=r G0 F0 n0 w0 i j o b k cs;exact⟨s,t,u,m,.of_steps (Steps.trans d (.one step_inLoop)) f⟩
 |exit id=>exact pass _ th g d|goto l=>exact pass _ th g d|ret=>exact pass _ th g d|panic v=>exact pass _ th g d|outgrown=>exact pass _ th g d
end
def J8(args:List AV):Fr:={env:=λt=>args.getD t (.tuple []),box:=λ_=>none,gen:=λ_=>0,rq:=λ_=>none,ds:=λ_=>0}
def GA(P:Program)(fr:Fr)(H:cd):List ResultVar->Option (List AV)
 |[]=>some []|.tmp t::rest=>(GA P fr H rest).map ((fr.env t).norm:: ·)|.cell a t::rest=>(rN P fr H t (fr.env a)).bind λv=>(GA P fr H rest).map (v.norm:: ·)
def tA:List AV->AV
 |[x]=>x|l=>.tuple l
def xT(P:Program)(rs:List ResultVar)(Post:AV->cd->Prop):Exit->Fr->cd->Prop
 |.normal,fr,H|.ret,fr,H=>match GA P fr H rs with
  |some l=>Post (tA l) H|none=>False
 |_,_,_=>False
section
variable{P:Program} {T:cW} {n:Nat} {fr:Fr} {H:cd} {a:Act} {w:World}
def PE(tmps:Array Value)(x:ResultVar):Sem Value:=
 match x with
 |.tmp t=>pure (tmps.getD t undef)|.cell a t=>do loadVar t (<-asAddr (tmps.getD a undef))
def AD{t:TypeId}{u v:Value}(h:(Instr.loadAt t u).run P w=.ok v w):(do loadVar t (<-asAddr u)).run P w=.ok v w:=by
 unfold Instr.loadAt at h;cases u with
 |pointer p=>
  cases p with
  |none=>simp[Instr.sureAddr,eS,stuck,Sem.run,Result.andThen] at h
  |some a=>exact h
 |_=>simp[Instr.sureAddr,eS,stuck,Sem.run,Result.andThen] at h
def PX{ρ:Maps}{F:jf}{R:Nat->mx}{B0:Nat}(h:WR T n B0 ρ F R fr H a w):∀(rs:List ResultVar) (l:List AV),GA P fr H rs=some l->∃vs:List Value,(rs.mapM (PE a.tmps)).run P w=.ok vs w/\eT F ρ.G ρ.n l vs:=by
 intro rs
 induction rs with
 |nil=>intro l b;simp[GA] at b;subst b;exact⟨[],rfl,.nil⟩
 |cons r rs k=>
  intro l b;cases r with
  |tmp t=>
   simp only[GA,Sb] at b;obtain⟨c,d,rfl⟩:=b;obtain⟨vs,f,g⟩:=k c d;refine⟨a.tmps.getD t undef::vs,?_,.cons (h.env t).norm g⟩;simp only[Sv,eS,PE,mC,gH,f]
  |cell i t=>
   simp only[GA,Wc,Sb] at b;obtain⟨v,m,c,d,rfl⟩:=b;obtain⟨vs,f,g⟩:=k c d;obtain⟨u,hu,o⟩:=G8 h m (h.env i);refine⟨u::vs,?_,.cons o.norm g⟩;have j:=AD hu;simp only[Sv];rw[eS];have e:(PE a.tmps (.cell i t))=(do loadVar t (<-asAddr (a.tmps.getD i undef))):=rfl;rw[e,j,gH,eS,f];rfl
def Ks{ρ:Maps}{F:jf}{R:Nat->mx}{B0:Nat}(h:WR T n B0 ρ F R fr H a w){fn:Func}{l:List AV}(c:GA P fr H fn.results.toList=some l):∃v,(results fn a.tmps).run P w=.ok v w/\eE F ρ.G ρ.n (tA l) v:=by
 obtain⟨vs,d,f⟩:=PX (P:=P) h _ _ c
 have e:results fn a.tmps=(do
   let vs<-fn.results.mapM (PE a.tmps)
   pure (if h:vs.size=1 then vs[0] else .tuple vs)):=rfl
 have hm:(fn.results.mapM (PE a.tmps)).run P w=.ok vs.toArray w:=by
  rw[<-MI (xs:=fn.results),X_,run_map,d];rfl
 rw[e,eS,hm,gH,mC];refine⟨_,rfl,?_⟩;cases f with
 |nil=>exact .tuple (vs:=[]) .nil|cons b g=>
  cases g with
  |nil=>exact b|cons i j=>
   have:=eE.tuple (.cons b (.cons i j));simpa[tA] using this
open Classical in
def du.intro{f:FuncId}{fn:Func}{c:Code}{args:List AV}{Post:AV->cd->Prop}(K:P.funcs[f]?=some fn)(M:fn.body=some c)(q:jl P f=true)(hlen:args.length<=fn.ntmps)
  (h:fb P T fn.ntmps c (xT P fn.results.toList Post) (J8 args) H):du P T f args H Post:=by
 refine⟨q,λG F w vs hg E=>?_⟩;refine calls_of_wp K M ?_;have s:args.length=vs.length:=E.length
 let ρ:Maps:={G:=G,n:=H.length,L:=λ_ _=>0,lg:=λ_=>0,A:=λ_ _=>none,ag:=λ_=>0}
 let R:Nat->mx:=λb=>if∃o,o<H.length/\G o=b then .kq else .free
 have hw:WR T fn.ntmps w.heap.size ρ F R (J8 args) H {tmps:=vs.toArray++Array.replicate (fn.ntmps-vs.toArray.size) undef,defers:=[]} w:=by
  refine⟨hg,?_,rfl,?_,rfl,λ_=>rfl,λ_=>rfl,?_,?_,?_,?_,?_,fC _⟩
  ·simp only[Array.size_append,S',Array.size_replicate];omega
  ·intro t;show ej F ρ (args.getD t (.tuple [])) _;rcases rI t args.length with ht|ht
   ·obtain⟨v,x,y⟩:=E.get (lV ht)
    have z:args.getD t (.tuple [])=args[t]:=by simp[ht]
    have B:(vs.toArray++Array.replicate (fn.ntmps-vs.toArray.size) undef).getD t undef=v:=by
     rw[H7,Array.getElem?_append_left (by simpa[<-s] using ht)];simp[x]
    rw[z,B];exact .p y
   ·have z:args.getD t (.tuple [])=.tuple []:=by simp[Rv ht]
    have B:(vs.toArray++Array.replicate (fn.ntmps-vs.toArray.size) undef).getD t undef=undef:=by
     rw[H7,Array.getElem?_append_right (by simpa[<-s] using ht),Array.getElem?_replicate]
     split<;>rfl
    rw[z,B];exact Cw
  ·intro d cs N;cases N
  ·intro k m O;cases O
  ·intro b j v x d;show(if∃o,o<H.length/\G o=b then mx.kq else .free)≠ .box d
   split<;>simp
  ·intro o C;show(if∃o',o'<H.length/\G o'=G o then mx.kq else .free)=.kq;rw[bX ⟨o,C,rfl⟩]
  ·intro b Q;show(if∃o,o<H.length/\G o=b then mx.kq else .free)=.free;rw[bV];rintro⟨o,C,rfl⟩;obtain⟨V,S,_⟩:=hg.kq o _ (lV C);have:=nX S;omega
 refine wp_mono (h G F H.length w _ w ⟨ρ,F,R,hw,Ext.refl⟩) ?_;rintro e I w' ⟨fr',H',a,ρ',F',W,i,D⟩
 have key:∀{l:List AV},GA P fr' H' fn.results.toList=some l->Post (tA l) H'->I.defers=[]/\∃v,(results fn I.tmps).run P w'=.ok v w'/\∃r H' J G' F',Post r H'/\Ending.returned v=.returned J/\GW T G' F' H' w'/\eE F' G' H'.length r J/\Ext w.heap.size G F H.length w G' F' H'.length w':=by
  intro l u U;obtain⟨v,x,y⟩:=Ks i u;rw[i.hn] at y;exact⟨i.defers,v,x,_,_,v,_,_,U,rfl,i.g,y,D⟩
 cases e with
 |normal=>
  simp only[xT] at a
  split at a
  ·rename_i l u;exact key u a
  ·exact a.elim
 |ret=>
  simp only[xT] at a
  split at a
  ·rename_i l u;exact key u a
  ·exact a.elim
 |_=>exact a.elim
end
end Go.jX
