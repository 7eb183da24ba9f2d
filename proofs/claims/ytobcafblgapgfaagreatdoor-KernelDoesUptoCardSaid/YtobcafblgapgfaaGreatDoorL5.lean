/- Part of the proof of KernelAccepts, KernelDoes: layer. -/
import Derived.Laws.IdiomStrings
import Derived.Scope
import Derived.Test.YtobcafblgapgfaaGreatDoorL4
set_option linter.all false
namespace Go.ke
open Go
def jm(P:Program)(f:FuncId):Bool:=
 match P.funcs[f]?with
 |some fn=>fn.body.isSome&&fn.name != "runtime.NumGoroutine"
 |none=>false
def dL(P:Program)(T:dx)(f:FuncId)(args:List AV)(H:cW)(Post:AV->cW->Prop):Prop:=
 jm P f=true/\∀(G:Nat->Nat) (F:jY) (w:World) (vs:List Value),GW T G F H w->fq F G H.length args vs->Calls P f vs.toArray w λe w'=>∃r H' v G' F',Post r H'/\e=.returned v/\GW T G' F' H' w'/\fF F' G' H'.length r v/\Ext w.heap.size G F H.length w G' F' H'.length w'
def du(P:Program)(T:dx)(f:FuncId)(args:List AV)(H:cW)(r:AV)(H':cW):Prop:=dL P T f args H λb a=>b=r/\a=H'
def dL.mono{P:Program}{T:dx}{f:FuncId}{args:List AV}{H:cW}{Post Post':AV->cW->Prop}(h:dL P T f args H Post)(a:∀r H',Post r H'->Post' r H'):dL P T f args H Post':=
 ⟨h.1,λG F w vs hg b=>(h.2 G F w vs hg b).mono λ_ _ ⟨r,H',v,G',F',h1,c⟩=>⟨r,H',v,G',F',a _ _ h1,c⟩⟩
def du.post{P:Program}{T:dx}{f:FuncId}{args:List AV}{H H':cW}{r:AV}{Post:AV->cW->Prop}(h:du P T f args H r H')(a:Post r H'):dL P T f args H Post:=
 dL.mono h λe b ⟨c,d⟩=>by subst c;subst d;exact a
def k0(P:Program)(T:dx)(a:AV)(args:List AV)(H:cW)(Post:AV->cW->Prop):Prop:=
 match a with
 |.func (.func g) first cap=>dL P T g (first++args++cap) H Post
 |_=>False
section
variable{P:Program} {T:dx} {n:Nat} {G0:Nat->Nat} {F0:jY} {n0:Nat} {w0:World} {fr:Fr} {H:cW} {a:Act} {w:World}
open Classical in
def WR.called{ρ:Maps}{F:jY}{R:Nat->oM}{B0:Nat}(h:WR T n B0 ρ F R fr H a w){G':Nat->Nat}{F':jY}{H':cW}{w':World}(hg:GW T G' F' H' w')
  (i:Ext w.heap.size ρ.G F H.length w G' F' H'.length w'):∃ρ' s,ρ'.G=G'/\ρ'.n=H'.length/\WR T n B0 ρ' F' s fr H' a w':=by
 let ρ':Maps:={ρ with G:=G',n:=H'.length}
 let s:Nat->oM:=λb=>if∃o,H.length<=o/\o<H'.length/\G' o=b then .jX else R b
 have x:Cc F F' ρ.G G' ρ.n H'.length:=by
  refine⟨λb o v D=>?_,by rw[h.hn];exact i.len,λo q=>i.hG o (by rw[<-h.hn];exact q)⟩;exact i.mF b o v (h.aaN D) D
 have t:tI F F' ρ ρ':=⟨x,λ_=>gu _,λ_ _ _=>rfl,λ_=>gu _,λ_ _ _=>rfl⟩
 have f:∀b,b<w.heap.size->s b=R b:=by
  intro b hb;show(if∃o,H.length<=o/\o<H'.length/\G' o=b then oM.jX else R b)=R b;rw[cK];rintro⟨o,h1,p,rfl⟩;have:=i.G9 o h1 p;omega
 have l:∀b,R b≠ .jX->∀o,o<H.length->ρ.G o≠b:=by
  rintro b hb o q rfl;exact hb (h.nE o q)
 refine⟨ρ',s,rfl,rfl,⟨hg,h.size,h.defers,h.env.grow t,rfl,h.lg,h.ag,?_,?_,?_,?_,?_,uJ h.qT i.size⟩⟩
 ·intro d cs hd;obtain⟨h1,p,y,vs,ty,r,z⟩:=h.box d cs hd;have g:=nY r;exact⟨h1,by rw[f _ g];exact p,y,vs,ty,(i.heap _ g (l _ (by rw[p];simp))).trans r,z.mono λ_ _ _ h=>h.grow t⟩
 ·intro k m I b c sz J;obtain⟨h1,p,y,A,⟨vs,ty,r,z⟩,K⟩:=h.tok k m I b c sz J;have g:=nY r;refine⟨h1,by rw[f _ g];exact p,y,A,⟨vs,ty,(i.heap _ g (l _ (by rw[p];simp))).trans r,z⟩,λj L=>?_⟩;rw[i.hF b j g (l _ (by rw[p];simp))];exact K j L
 ·intro b j v E;rcases qu b w.heap.size with hb|hb
  ·rw[f b hb]
   by_cases u:∃o,o<H.length/\ρ.G o=b
   ·obtain⟨o,q,rfl⟩:=u;rw[h.nE o q];simp
   ·rw[i.hF b j hb λo q e=>u ⟨o,q,e⟩] at E;exact h.rf b j v E
  ·intro d;show(if∃o,H.length<=o/\o<H'.length/\G' o=b then oM.jX else R b)≠ .box d
   split
   ·simp
   ·rw[h.lb b hb];simp
 ·intro o q;rcases qu o H.length with h1|h1
  ·have B:=h.nE o h1
   have g:ρ.G o<w.heap.size:=by
    rcases qu (ρ.G o) w.heap.size with h'|h'
    ·exact h'
    ·rw[h.lb _ h'] at B;cases B
   show s (G' o)=.jX;rw[i.hG o h1,f _ g];exact B
  ·show(if∃o',H.length<=o'/\o'<H'.length/\G' o'=G' o then oM.jX else R (G' o))=.jX;rw[cO ⟨o,h1,q,rfl⟩]
 ·intro b hb;show(if∃o,H.length<=o/\o<H'.length/\G' o=b then oM.jX else R b)=.free;rw[cK]
  ·exact h.lb b (uJ i.size hb)
  ·rintro⟨o,h1,p,rfl⟩;have C:H'[o]?=some H'[o]:=oO p;obtain⟨M,r,_⟩:=hg.jX o _ C;have:=nY r;omega
end
def FH(E:List Nat)(dst:Option Nat)(v:AV)(K:Fr->cW->Prop)(fr:Fr)(H:cW):Prop:=
 if dst.any E.contains then(match v with|.slice _ l=>K (fr.put dst (.pQ H.length 0 l.length l.length)) (H++[l.flatMap AV.cells])|_=>False)else K (fr.put dst v) H
def Ro(P:Program)(dst:Option Nat)(s d:TypeId)(x:AV)(K:Fr->cW->Prop)(fr:Fr)(H:cW):Prop:=
 match R6 P s d x with
 |some v=>K (fr.put dst v) H|none=>match P.underlying s,P.underlying d,x with
  |some .string,some (.slice e),.sc (.string y)=>P.underlying e=some (.int .u8)/\y.size<=ie/\∀cap k,y.size<=cap->K (fr.put dst (.pQ H.length 0 y.size cap)) (H++[pY y++uq k])|_,_,_=>False
def qi(P:Program)(T:dx)(E:List Nat)(o:Oper)(K:Fr->cW->Prop)(fr:Fr)(H:cW):Prop:=
 match o.op with
 |.alloc t=>match js P t with
  |some z=>j_ E o.dst z K fr H|none=>False
 |.box _ x=>dY (ev T fr x)=true/\j_ E o.dst (ev T fr x).cells K fr H|.load t x=>match sY P fr H t (ev T fr x)with
  |some v=>K (fr.put o.dst v) H|none=>False
 |.store t x y=>o.dst=none/\ld P t (ev T fr x) (ev T fr y) K fr H|.buildSlice t n ps=>match mH P t n (ps.toList.map λp=>(p.1,ev T fr p.2))with
  |some v=>FH E o.dst v K fr H|none=>False
 |.convert s d x=>Ro P o.dst s d (ev T fr x) K fr H|.call c=>match c.callee with
  |.builtin .append=>(mO P T c o.dst K fr H\/Cw P T c o.dst K fr H)\/BA P T c o.dst K fr H\/oP P T c o.dst K fr H|.builtin _=>match vL P T fr c with
   |some v=>K (fr.put o.dst v) H|none=>False
  |.value f=>k0 P T (ev T fr f) (c.args.toList.map λx=>(ev T fr x).norm) H λr H'=>K (fr.put o.dst r) H'|.invoke _ _=>False
 |.makeMap _ none=>Gh o.dst K fr H|.mapUpdate t m k x=>o.dst=none/\rX P t (ev T fr m) (ev T fr k) (ev T fr x) K fr H|.insert t m k x=>o.dst=none/\rX P t (ev T fr m) (ev T fr k) (ev T fr x) K fr H|.lookup t x i ok=>match tT P H t (ev T fr x) (ev T fr i) ok with
  |some v=>K (fr.put o.dst v) H|none=>False
 |.range t x=>GN P t (ev T fr x) o.dst K fr H|.next it false=>Iy (ev T fr it) o.dst K fr H|.entry it=>match CR (ev T fr it) H with
  |some v=>K (fr.put o.dst v) H|none=>False
 |_=>match xL P T fr o with
  |some v=>K (fr.put o.dst v) H|none=>False
def rV(n:Nat)(o:Oper):Bool:=o.dst.all (λd=>decide (d<n))&&o.op.operands.all iD
def xp{n:Nat}{o:Oper}(h:rV n o=true):∀d,o.dst=some d->d<n:=by
 intro d hd;simp only[rV,ft] at h;rw[hd] at h;simpa using h.1
def MF{n:Nat}{o:Oper}(h:rV n o=true):o.op.operands.all iD=true:=by
 simp only[rV,ft] at h;exact h.2
section
variable{P:Program} {T:dx} {n:Nat} {G0:Nat->Nat} {F0:jY} {n0:Nat} {w0:World} {fr:Fr} {H:cW} {a:Act} {w:World}
def Kc(w:World){f:FuncId}(h:jm P f=true)(args:Array Value):(callFunc f args).run P w=.ok (.enter f args) w:=by
 unfold jm at h
 split at h
 ·rename_i fn b;simp only[ft,bne_iff_ne,ne_eq] at h;simp[callFunc,program,Sem.run,b,h.2];intro a;rw[a] at h;simp at h
 ·cases h
def Hq{ρ:Maps}{F:jY}{R:Nat->oM}(h:WR T n w0.heap.size ρ F R fr H a w)(m:Ext w0.heap.size G0 F0 n0 w0 ρ.G F H.length w)(s d:TypeId){e:TypeId}(y:ByteArray)(hs:P.underlying s=some .string)(hd:P.underlying d=some (.slice e))
  (he:P.underlying e=some (.int .u8)) (f:y.size<=ie) {dst:Option Nat} (g:∀d,dst=some d->d<n):∃w',(convert s d (.string y)).run P w=.ok (.slice (some ⟨w.heap.size,0,none⟩) y.size (grownCap w y.size 0 e)) w'/\SR T n G0 F0 n0 w0 (fr.put dst (.pQ H.length 0 y.size (grownCap w y.size 0 e))) (H++[pY y++uq (grownCap w y.size 0 e-y.size)]) (a.put dst (.slice (some ⟨w.heap.size,0,none⟩) y.size (grownCap w y.size 0 e))) w':=by
 have i:=grownCap_ge w y.size 0 e;have hle:=grownCap_le_maxLen w y.size 0 e (by have:y.size<=1099511627776:=f;simp only[maxLen];omega);refine⟨_,run_bytes_of_string w s d e y hs hd he,rH h.drew m.drew (.cells (.inr (gu _)) ?_ ?_) g ?_⟩
 ·have p:(bytesRow y (grownCap w y.size 0 e)).toList=Lib.strCells y++List.replicate (grownCap w y.size 0 e-y.size) (.int .u8 0):=by
   simp[bytesRow,Lib.strCells]
  rw[p];refine .append ?_ ?_
  ·have h1:=(ur (F:=F) (G:=ρ.G) (k:=ρ.n) (Lib.strCells y) (λv q=>by obtain⟨b,_,rfl⟩:=l8.1 q;rfl)).sF
   have r:(Lib.strCells y).map AV.sc=pY y:=by simp[Lib.strCells,pY]
   rwa [r] at h1
  ·generalize grownCap w y.size 0 e-y.size=k
   induction k with
   |zero=>exact .nil|succ k t=>
    show f_ _ (List.replicate (k+1) AV.undef) (List.replicate (k+1) _);rw[Xi,Xi];exact .cons (.undef rfl) t
 ·intro c hc;rcases qA.1 hc with hc|hc
  ·obtain⟨b,_,rfl⟩:=l8.1 hc;rfl
  ·exact wN _ c hc
 ·intro ρ' hG j l;have:=fF.pQ (F:=F) (G:=ρ'.G) (n:=ρ'.n) (o:=H.length) (off:=0) (len:=y.size) (cap:=grownCap w y.size 0 e) (by rw[l];omega) i hle;rw[j] at this;exact this
def En{E:List Nat}{o:Oper}{K:Fr->cW->Prop}{Q:Exit->Act->World->Prop}(O:rV n o=true)(hs:SR T n G0 F0 n0 w0 fr H a w)(h:qi P T E o K fr H):o.wp P a w (λX w'=>∃fr' H',K fr' H'/\SR T n G0 F0 n0 w0 fr' H' X w') Q:=by
 obtain⟨ρ,F,R,hw,q⟩:=hs;have hd:=xp O;have L:=MF O
 have J:∀{v:AV},(∃u,(execOp a.eval o).run P w=.ok (.value u) w/\fG F ρ v u)->K (fr.put o.dst v) H->o.wp P a w (λX w'=>∃fr' H',K fr' H'/\SR T n G0 F0 n0 w0 fr' H' X w') Q:=by
  rintro v ⟨u,M,hu⟩ D;unfold Oper.wp;rw[M];exact⟨_,_,D,ρ,F,R,hw.put hd hu,q⟩
 have l:∀{s:Sem Value} {u:Value} {w':World},execOp a.eval o=(do pure (.value (<-s)))->s.run P w=.ok u w'->(∃fr' H',K fr' H'/\SR T n G0 F0 n0 w0 fr' H' (a.put o.dst u) w')->o.wp P a w (λX w'=>∃fr' H',K fr' H'/\SR T n G0 F0 n0 w0 fr' H' X w') Q:=by
  intro s u w' he M D;unfold Oper.wp;rw[he,gb,M];exact D
 obtain⟨dst,op,type,pos,after,guard⟩:=o;simp only at L hd;have j:∀x∈op.operands,iD x=true:=λx q=>HJ.1 L x q;unfold qi at h;simp only at h
 split at h
 ·--alloc
  rename_i t
  split at h
  ·rename_i cells af;obtain⟨z,hz,ah,ai,rfl⟩:=IH af;have ak:=h
   have an:∀vs,z≠ .tuple vs:=by rintro vs rfl;simp[ofValue,dY] at ai
   obtain⟨Y,aq⟩:=As ah an;refine l (s:=Instr.alloc t true (.tuple #[])) rfl (MW w hz) ?_;refine DW hw q ak hd t ?_ ?_
   ·rw[Y];exact(qC F ρ.G ρ.n _ aq).sF.mono λ_ _ _ h=>.p h
   ·rw[Y];intro c U;obtain⟨u,_,rfl⟩:=l8.1 U;exact xV u
  ·exact h.elim
 ·--box
  rename_i t x;obtain⟨h1,h2⟩:=h;have B:=fI hw.env hw.gH x (j x (by simp[Op.operands]));exact l (s:=Instr.box t (a.eval x)) rfl rfl (DW hw q h2 hd t (B.cells (gP h1)) (B.qS (gP h1)))
 ·--load
  rename_i t x
  split at h
  ·rename_i v C;have B:=fI hw.env hw.gH x (j x (by simp[Op.operands]));obtain⟨u,hu,M⟩:=IL hw C B;exact l (s:=Instr.loadAt t (a.eval x)) rfl hu ⟨_,_,h,ρ,F,R,hw.put hd M,q⟩
  ·exact h.elim
 ·--store
  rename_i t x y;obtain⟨I,h⟩:=h;subst I;have B:=fI hw.env hw.gH x (j x (by simp[Op.operands]));have ar:=fI hw.env hw.gH y (j y (by simp[Op.operands]));obtain⟨fr',H',w',b,D,hs⟩:=MG hw q h B ar;unfold Oper.wp;have e:execOp a.eval {dst:=none,op:=.store t x y,type:=type,pos:=pos,after:=after,guard:=guard}=(do Instr.storeAt t (a.eval x) (a.eval y);pure .skip):=rfl;rw[e,gb,b];exact⟨fr',H',D,hs⟩
 ·--buildSlice
  rename_i t k ps
  split at h
  ·rename_i v C;have hp:=Fu hw.env hw.gH ps.toList λp hp=>j p.2 (by simp[Op.operands];exact⟨p.1,by simpa using hp⟩)
   have e:(ps.toList.map λp=>(p.1,a.eval p.2)).toArray=ps.map λp=>(p.1,a.eval p.2):=by rw[<-LA,MO]
   unfold FH at h
   split at h
   ·split at h
    ·obtain⟨u,w',b,hs⟩:=Ce hw q C hp hd;rw[e] at b;unfold Oper.wp;simp only[execOp,gb,b,iS];exact⟨_,_,h,hs⟩
    ·exact h.elim
   ·obtain⟨u,w',b,hs⟩:=CW hw q C hp hd;rw[e] at b;unfold Oper.wp;simp only[execOp,gb,b,iS];exact⟨_,_,h,hs⟩
  ·exact h.elim
 ·--convert
  rename_i t d x;have B:=fI hw.env hw.gH x (j x (by simp[Op.operands]));unfold Ro at h
  split at h
  ·rename_i v C;refine J (v:=v) (AJ w hw.g.BF hw.env hw.gH L ?_) h;simp only[xL];exact C
  ·split at h
   ·rename_i e y hs aw ax;obtain⟨he,Z,h⟩:=h;rw[ax] at B;have C:=fh B;obtain⟨w',b,ay⟩:=Hq hw q t d y hs aw he Z hd;refine l (s:=convert t d (a.eval x)) rfl (by rw[C];exact b) ⟨_,_,h _ _ (by simpa using grownCap_ge w y.size 0 e),ay⟩
   ·exact h.elim
 ·--call
  rename_i c;obtain⟨callee,args,argTypes⟩:=c;have A:∀x∈args.toList,iD x=true:=λx q=>j x (by simp[Op.operands,Call.operands,wS.1 q])
  split at h
  ·--append
   rename_i U;simp only at U;subst U;obtain⟨u,w',fr',H',b,D,hs⟩:=h.elim (λh=>h.elim (λh=>JX (ty:=type) hw q h hd A) (λh=>Ie (ty:=type) hw q h hd A)) (λh=>h.elim (λh=>H9 (ty:=type) hw q h hd A) (λh=>Ii (ty:=type) hw q h hd A));unfold Oper.wp execOp;simp only[resolve,invoke,builtin,gb,ou,iS];rw[b];exact⟨fr',H',D,hs⟩
  ·--aa builtin
   split at h
   ·rename_i v C;refine J (v:=v) (AJ w hw.g.BF hw.env hw.gH L ?_) h;simp only[xL];exact C
   ·exact h.elim
  ·--a S value
   rename_i f U;simp only at U;subst U;unfold k0 at h;have ab:=fI hw.env hw.gH f (j f (by simp[Op.operands,Call.operands]))
   split at h
   ·rename_i g first cap hf
    rw[hf] at ab;obtain⟨vf,vc,C,az,aA⟩:=zN ab;obtain⟨ad,V⟩:=h;have N:=Gt hw.env hw.gH args.toList A
    have W:fq F ρ.G H.length (first++(args.toList.map λx=>(ev T fr x).norm)++cap) (vf++args.toList.map a.eval++vc):=by
     rw[<-hw.hn];exact((fq.m6 az).append N).append (.m6 aA)
    have hC:=V ρ.G F w _ hw.g W;unfold Oper.wp
    have e:(execOp a.eval {dst:=dst,op:=.call {callee:=.value f,args:=args,argTypes:=argTypes},type:=type,pos:=pos,after:=after,guard:=guard}).run P w=.ok (.enter g (vf++args.toList.map a.eval++vc).toArray) w:=by
     simp only[execOp,resolve,gb];rw[C];simp only[Deferred.ofValue,ou,iS,invoke];rw[Kc w ad]
     congr 2
     apply Bt.1;simp
    rw[e];show Calls P g _ w _;refine hC.mono ?_;rintro e' w' ⟨r,H',v,G',F',D,rfl,aB,aC,ae⟩;obtain⟨ρ',R',hG,aD,aE⟩:=hw.called aB ae;refine⟨_,_,D,ρ',F',R',aE.put hd (.p ?_),?_⟩
    ·rw[hG,aD];exact aC
    ·rw[hG];exact q.trans (ae.mono hw.qT)
   ·exact h.elim
  ·exact h.elim
 ·--makeMap
  obtain⟨v,w',b,hs⟩:=Hh (P:=P) hw q hd;exact l (s:=Instr.makeMap _ none) rfl b ⟨_,_,h,hs⟩
 ·--mapUpdate
  rename_i t m k x;obtain⟨I,h⟩:=h;subst I;obtain⟨fr',H',w',b,D,hs⟩:=By hw q h (fI hw.env hw.gH m (j m (by simp[Op.operands]))) (fI hw.env hw.gH k (j k (by simp[Op.operands]))) (fI hw.env hw.gH x (j x (by simp[Op.operands])));unfold Oper.wp;have e:execOp a.eval {dst:=none,op:=.mapUpdate t m k x,type:=type,pos:=pos,after:=after,guard:=guard}=(do Instr.mapUpdate t (a.eval m) (a.eval k) (a.eval x);pure .skip):=rfl;rw[e,gb,b];exact⟨fr',H',D,hs⟩
 ·--insert
  rename_i t m k x;obtain⟨I,h⟩:=h;subst I;obtain⟨fr',H',w',b,D,hs⟩:=By hw q h (fI hw.env hw.gH m (j m (by simp[Op.operands]))) (fI hw.env hw.gH k (j k (by simp[Op.operands]))) (fI hw.env hw.gH x (j x (by simp[Op.operands])));unfold Oper.wp;have e:execOp a.eval {dst:=none,op:=.insert t m k x,type:=type,pos:=pos,after:=after,guard:=guard}=(do Instr.mapUpdate t (a.eval m) (a.eval k) (a.eval x);pure .skip):=rfl;rw[e,gb,b];exact⟨fr',H',D,hs⟩
 ·--lookup
  rename_i t x i ok
  split at h
  ·rename_i v C;obtain⟨u,hu,M⟩:=L9 hw C (fI hw.env hw.gH x (j x (by simp[Op.operands]))) (fI hw.env hw.gH i (j i (by simp[Op.operands])));exact l (s:=Instr.lookup t (a.eval x) (a.eval i) ok) rfl hu ⟨_,_,h,ρ,F,R,hw.put hd M,q⟩
  ·exact h.elim
 ·--range
  rename_i t x;obtain⟨v,w',fr',H',b,D,hs⟩:=Ms hw q h hd (fI hw.env hw.gH x (j x (by simp[Op.operands])));exact l (s:=Instr.range t (a.eval x)) rfl b ⟨_,_,D,hs⟩
 ·--next
  rename_i it;obtain⟨v,w',fr',H',b,D,hs⟩:=NA hw q type h hd (fI hw.env hw.gH it (j it (by simp[Op.operands])));exact l (s:=Instr.next (a.eval it) false type) rfl b ⟨_,_,D,hs⟩
 ·--entry
  rename_i it
  split at h
  ·rename_i v C;obtain⟨u,hu,M⟩:=NJ (P:=P) hw C (fI hw.env hw.gH it (j it (by simp[Op.operands])));exact l (s:=Instr.entry (a.eval it)) rfl hu ⟨_,_,h,ρ,F,R,hw.put hd M,q⟩
  ·exact h.elim
 ·--all others only compute
  split at h
  ·rename_i v C;exact J (v:=v) (AJ w hw.g.BF hw.env hw.gH L C) h
  ·exact h.elim
end
end Go.ke
namespace Go.ke
open Go
def BQ(P:Program)(T:dx)(E:List Nat)(ops:Array Oper)(o:Oper)(K:Fr->cW->Prop)(fr:Fr)(H:cW):Prop:=
 match o.guard with
 |none=>qi P T E o K fr H|some (j,want)=>
  match(ops[j]?).bind (·.dst)with
  |some d=>
   match fr.env d with
   |.sc (.bool b)=>if b=want then qi P T E o K fr H else K (fr.put o.dst (.tuple [])) H|.tuple _=>K (fr.put o.dst (.tuple [])) H|_=>False
  |none=>False
def gK(P:Program)(T:dx)(E:List Nat)(ops:Array Oper):List Oper->(Fr->cW->Prop)->Fr->cW->Prop
 |[],K,fr,H=>K fr H|o::rest,K,fr,H=>BQ P T E ops o (λfr H=>gK P T E ops rest K fr H) fr H
def xA(n:Nat)(ops:Array Oper):Bool:=ops.all (rV n)
section
variable{P:Program} {T:dx} {n:Nat} {G0:Nat->Nat} {F0:jY} {n0:Nat} {w0:World} {fr:Fr} {H:cW} {a:Act} {w:World}
def D4{F:jY}{ρ:Maps}:fG F ρ (.tuple []) undef:=.p (.tuple (vs:=[]) .nil)
def SR.put(hs:SR T n G0 F0 n0 w0 fr H a w){d:Option Nat}(hd:∀b,d=some b->b<n):SR T n G0 F0 n0 w0 (fr.put d (.tuple [])) H (a.put d undef) w:=by
 obtain⟨ρ,F,R,hw,c⟩:=hs;exact⟨ρ,F,R,hw.put hd D4,c⟩
def N1(hs:SR T n G0 F0 n0 w0 fr H a w){ops:Array Oper}{j d:Nat}{b:Bool}(hd:(ops[j]?).bind (·.dst)=some d)(he:fr.env d=.sc (.bool b)):yielded ops a.tmps j=some b:=by
 obtain⟨ρ,F,R,hw,f⟩:=hs;have h:=hw.env d;rw[he] at h;have c:=fh h;unfold yielded;rw[hd];simp only[TB];cases e:a.tmps[d]?with
 |none=>rw[Jj,e] at c;cases c
 |some v=>
  rw[Jj,e] at c;simp at c;subst c;rfl
def HQ(hs:SR T n G0 F0 n0 w0 fr H a w){ops:Array Oper}{j d:Nat}{l:List AV}(hd:(ops[j]?).bind (·.dst)=some d)(he:fr.env d=.tuple l):yielded ops a.tmps j=none:=by
 obtain⟨ρ,F,R,hw,c⟩:=hs;have h:=hw.env d;rw[he] at h;unfold yielded;rw[hd];simp only[TB];cases b:a.tmps[d]?with
 |none=>rfl|some v=>
  rw[Jj,b] at h;simp at h;cases h with
  |cell h=>cases h with|p h=>cases h;rfl
def D9{E:List Nat}{ops:Array Oper}{i:Nat}{o:Oper}{K:Fr->cW->Prop}{Q:Exit->Act->World->Prop}(hi:ops[i]?=some o)(c:rV n o=true)(hs:SR T n G0 F0 n0 w0 fr H a w)
  (h:BQ P T E ops o K fr H) {N:Act->World->Prop} (g:∀fr' H' f w',K fr' H'->SR T n G0 F0 n0 w0 fr' H' f w'->N f w'):wpOp P ops Q i N a w:=by
 unfold wpOp;simp only[hi];unfold BQ at h
 split at h
 ·rename_i hg;rw[cO (by simp[Region.wanted,hg])];exact .inl (Oper.wp_mono (λf w' ⟨fr',H',k,e⟩=>g fr' H' f w' k e) (En c hs h))
 ·rename_i j want hg
  split at h
  ·rename_i d hd
   split at h
   ·rename_i b he;have hy:=N1 hs hd he
    split at h
    ·rename_i m;rw[cO (by simp[Region.wanted,hg,hy,m])];exact .inl (Oper.wp_mono (λf w' ⟨fr',H',k,e⟩=>g fr' H' f w' k e) (En c hs h))
    ·rename_i m;rw[cK (by simp[Region.wanted,hg,hy,m])];exact g _ _ _ _ h (hs.put (xp c))
   ·rename_i l he;have hy:=HQ hs hd he;rw[cK (by simp[Region.wanted,hg,hy])];exact g _ _ _ _ h (hs.put (xp c))
   ·exact h.elim
  ·exact h.elim
def Nq{E:List Nat}{ops:Array Oper}{K:Fr->cW->Prop}{Q:Exit->Act->World->Prop}(b:xA n ops=true)
  (i:∀fr' H' e w',K fr' H'->SR T n G0 F0 n0 w0 fr' H' e w'->Q .normal e w'):∀(l:List Oper) (k:Nat) (fr:Fr) (H:cW) (a:Act) (w:World),l=ops.toList.drop k->SR T n G0 F0 n0 w0 fr H a w->gK P T E ops l K fr H->wpOps P ops Q (List.range' k l.length) a w:=by
 intro l
 induction l with
 |nil=>
  intro k fr H a w c hs h;simp only[vo,List.range'_zero,wpOps];exact i _ _ _ _ h hs
 |cons o l j=>
  intro k fr H a w c hs h
  have d:k<ops.toList.length:=by
   rcases qu k ops.toList.length with h'|h'
   ·exact h'
   ·rw[Da h'] at c;cases c
  have hd:=JK d;rw[hd] at c;injection c with h1 m
  have hi:ops[k]?=some o:=by
   rw[h1];simp only[UW];exact Pe (by simpa using d)
  simp only[kN,Ta];rw[wpOps_cons];have f:rV n o=true:=HJ.1 b o (Sx hi);refine D9 hi f hs h ?_;intro fr' H' e w' p g;exact j (k+1) fr' H' e w' m g p
end
def fg(P:Program)(T:dx)(n:Nat)(c:Code)(Q:Exit->Fr->cW->Prop)(fr:Fr)(H:cW):Prop:=
 ∀G0 F0 n0 w0 a w,SR T n G0 F0 n0 w0 fr H a w->c.wp P (λe b w'=>∃fr' H',Q e fr' H'/\SR T n G0 F0 n0 w0 fr' H' b w') a w
def Ft(K:Fr->cW->Prop)(Q:Exit->Fr->cW->Prop):Exit->Fr->cW->Prop
 |.normal,fr,H=>K fr H|e,fr,H=>Q e fr H
def FY(id:Nat)(Q:Exit->Fr->cW->Prop):Exit->Fr->cW->Prop
 |.exit a,fr,H=>if a=id then Q .normal fr H else Q (.exit a) fr H|e,fr,H=>Q e fr H
section
variable{P:Program} {T:dx} {n:Nat} {Q Q':Exit->Fr->cW->Prop} {fr:Fr} {H:cW}
def fg.mono{c:Code}(h:fg P T n c Q fr H)(b:∀e fr H,Q e fr H->Q' e fr H):fg P T n c Q' fr H:=
 λG0 F0 n0 w0 a w hs=>wp_mono (h G0 F0 n0 w0 a w hs) λ_ _ _ ⟨fr',H',h1,d⟩=>⟨fr',H',b _ _ _ h1,d⟩
def fg.skip(h:Q .normal fr H):fg P T n .skip Q fr H:=λ_ _ _ _ _ _ hs=>wp_skip ⟨_,_,h,hs⟩
def fg.label{l:Nat}(h:Q .normal fr H):fg P T n (.label l) Q fr H:=λ_ _ _ _ _ _ hs=>wp_label ⟨_,_,h,hs⟩
def fg.scope{c:Code}(h:fg P T n c (λe fr H=>(match e with|.goto _=>False|_=>True)/\Q e fr H) fr H):fg P T n (.scope c) Q fr H:=
 λG0 F0 n0 w0 a w hs=>wp_scope_straight (wp_mono (h G0 F0 n0 w0 a w hs) λe _ _ ⟨fr',H',h1,b⟩=>by
  cases e<;>first|exact h1.1.elim|exact⟨fr',H',h1.2,b⟩)
def fg.exit{id:Nat}(h:Q (.exit id) fr H):fg P T n (.exit id) Q fr H:=λ_ _ _ _ _ _ hs=>wp_exit ⟨_,_,h,hs⟩
def fg.ret(h:Q .ret fr H):fg P T n .ret Q fr H:=λ_ _ _ _ _ _ hs=>wp_ret ⟨_,_,h,hs⟩
def fg.seq{x y:Code}(h:fg P T n x (Ft (fg P T n y Q) Q) fr H):fg P T n (.seq x y) Q fr H:=by
 intro G0 F0 n0 w0 a w hs;refine wp_seq (wp_mono (h G0 F0 n0 w0 a w hs) ?_);rintro e c w' ⟨fr',H',h1,b⟩
 cases e<;>first|exact h1 G0 F0 n0 w0 c w' b|exact⟨fr',H',h1,b⟩
def fg.cond{c:Operand}{x y:Code}{t:Bool}(d:ev T fr c=.sc (.bool t))(f:iD c=true)(g:t=true->fg P T n x Q fr H)(i:t=false->fg P T n y Q fr H):fg P T n (.cond c x y) Q fr H:=by
 intro G0 F0 n0 w0 a w hs;have b:=hs;obtain⟨ρ,F,R,hw,j⟩:=b;have h:=fI hw.env hw.gH c f;rw[d] at h;exact wp_cond_split (fh h) (λe=>g e G0 F0 n0 w0 a w hs) (λe=>i e G0 F0 n0 w0 a w hs)
def fg.block{id:Nat}{c:Code}(h:fg P T n c (FY id Q) fr H):fg P T n (.block id c) Q fr H:=by
 intro G0 F0 n0 w0 a w hs;refine wp_block (wp_mono (h G0 F0 n0 w0 a w hs) ?_);rintro e f w' ⟨fr',H',h1,b⟩;cases e with
 |exit d=>
  simp only[FY,Exit.inBlock] at h1|-
  split at h1
  ·rename_i he;rw[cO he];exact⟨fr',H',h1,b⟩
  ·rename_i he;rw[cK he];exact⟨fr',H',h1,b⟩
 |_=>exact⟨fr',H',h1,b⟩
def fg.region{id:Nat}{ops:Array Oper}(E:List Nat)(b:xA n ops=true)(h:gK P T E ops ops.toList (Q .normal) fr H):fg P T n (.region id ops false) Q fr H:=by
 intro G0 F0 n0 w0 a w hs;refine wp_region ?_;have:=Nq (Q:=λe c w'=>∃fr' H',Q e fr' H'/\SR T n G0 F0 n0 w0 fr' H' c w') b (λfr' H' c w' h1 d=>⟨fr',H',h1,d⟩) ops.toList 0 fr H a w aa4 hs h;rw[PL];simpa using this
def XC(P:Program)(T:dx)(n:Nat)(c:Code)(Q:Exit->Fr->cW->Prop)(fr:Fr)(H:cW):Prop:=
 ∀G0 F0 n0 w0 a w,SR T n G0 F0 n0 w0 fr H a w->∀(b:Frame) (k:List Item) (cs:List Frame),∃e d w',(∃fr' H',Q e fr' H'/\SR T n G0 F0 n0 w0 fr' H' d w')/\Arrives P (lone (b.at a (.code c::.inLoop c::k)) cs w) b k cs e d w'
def fg.loop{c:Code}(h:XC P T n c Q fr H):fg P T n (.loop c) Q fr H:=by
 intro G0 F0 n0 w0 a w hs b k cs;obtain⟨e,f,w',g,d⟩:=h G0 F0 n0 w0 a w hs b k cs;exact⟨e,f,w',g,.of_steps (.one step_loop) d⟩
def XC.round{c:Code}(h:fg P T n c (Ft (XC P T n c Q) Q) fr H):XC P T n c Q fr H:=by
 intro G0 F0 n0 w0 a w hs b k cs;obtain⟨e,g,i,⟨fr',H',h1,m⟩,d⟩:=h G0 F0 n0 w0 a w hs b (.inLoop c::k) cs
 have pass:∀e,e≠ .normal->Q e fr' H'->Arrives P (lone (b.at a (.code c::.inLoop c::k)) cs w) b (.inLoop c::k) cs e g i->∃e o w',(∃fr' H',Q e fr' H'/\SR T n G0 F0 n0 w0 fr' H' o w')/\Arrives P (lone (b.at a (.code c::.inLoop c::k)) cs w) b k cs e o w':=by
  intro e he p d;exact⟨e,g,i,⟨fr',H',p,m⟩,.pass (x:=.inLoop c) rfl (λ_ _=>.inl he) d⟩
 cases e with
 |normal=>
  have q:XC P T n c Q fr' H':=h1;obtain⟨r,s,t,j,f⟩:=q G0 F0 n0 w0 g i m b k cs;exact⟨r,s,t,j,.of_steps (Steps.trans d (.one step_inLoop)) f⟩
 |exit id=>exact pass _ aa4 h1 d|goto l=>exact pass _ aa4 h1 d|ret=>exact pass _ aa4 h1 d|panic u=>exact pass _ aa4 h1 d|outgrown=>exact pass _ aa4 h1 d
end
def LX(args:List AV):Fr:={env:=λt=>args.getD t (.tuple []),box:=λ_=>none,gen:=λ_=>0,tm:=λ_=>none,ei:=λ_=>0}
def H6(P:Program)(fr:Fr)(H:cW):List ResultVar->Option (List AV)
 |[]=>some []|.tmp t::rest=>(H6 P fr H rest).map ((fr.env t).norm:: ·)|.cell a t::rest=>(sY P fr H t (fr.env a)).bind λv=>(H6 P fr H rest).map (v.norm:: ·)
def uS:List AV->AV
 |[x]=>x|l=>.tuple l
def uL(P:Program)(rs:List ResultVar)(Post:AV->cW->Prop):Exit->Fr->cW->Prop
 |.normal,fr,H|.ret,fr,H=>match H6 P fr H rs with
  |some l=>Post (uS l) H|none=>False
 |_,_,_=>False
section
variable{P:Program} {T:dx} {n:Nat} {fr:Fr} {H:cW} {a:Act} {w:World}
def Rl(tmps:Array Value)(x:ResultVar):Sem Value:=
 match x with
 |.tmp t=>pure (tmps.getD t undef)|.cell a t=>do loadVar t (<-asAddr (tmps.getD a undef))
def CC{t:TypeId}{u v:Value}(h:(Instr.loadAt t u).run P w=.ok v w):(do loadVar t (<-asAddr u)).run P w=.ok v w:=by
 unfold Instr.loadAt at h;cases u with
 |pointer p=>
  cases p with
  |none=>simp[Instr.sureAddr,gb,stuck,Sem.run,Result.andThen] at h
  |some a=>exact h
 |_=>simp[Instr.sureAddr,gb,stuck,Sem.run,Result.andThen] at h
def Ru{ρ:Maps}{F:jY}{R:Nat->oM}{B0:Nat}(h:WR T n B0 ρ F R fr H a w):∀(rs:List ResultVar) (l:List AV),H6 P fr H rs=some l->∃vs:List Value,(rs.mapM (Rl a.tmps)).run P w=.ok vs w/\fq F ρ.G ρ.n l vs:=by
 intro rs
 induction rs with
 |nil=>intro l b;simp[H6] at b;subst b;exact⟨[],rfl,.nil⟩
 |cons r rs j=>
  intro l b;cases r with
  |tmp t=>
   simp only[H6,Um] at b;obtain⟨c,h1,rfl⟩:=b;obtain⟨vs,d,f⟩:=j c h1;refine⟨a.tmps.getD t undef::vs,?_,.cons (h.env t).norm f⟩;simp only[Tn,gb,Rl,ou,iS,d]
  |cell g t=>
   simp only[H6,Uw,Um] at b;obtain⟨v,k,c,h1,rfl⟩:=b;obtain⟨vs,d,f⟩:=j c h1;obtain⟨u,hu,m⟩:=IL h k (h.env g);refine⟨u::vs,?_,.cons m.norm f⟩;have i:=CC hu;simp only[Tn];rw[gb];have e:(Rl a.tmps (.cell g t))=(do loadVar t (<-asAddr (a.tmps.getD g undef))):=rfl;rw[e,i,iS,gb,d];rfl
def Mv{ρ:Maps}{F:jY}{R:Nat->oM}{B0:Nat}(h:WR T n B0 ρ F R fr H a w){fn:Func}{l:List AV}(c:H6 P fr H fn.results.toList=some l):∃v,(results fn a.tmps).run P w=.ok v w/\fF F ρ.G ρ.n (uS l) v:=by
 obtain⟨vs,h1,d⟩:=Ru (P:=P) h _ _ c
 have e:results fn a.tmps=(do
   let vs<-fn.results.mapM (Rl a.tmps)
   pure (if h:vs.size=1 then vs[0] else .tuple vs)):=rfl
 have hm:(fn.results.mapM (Rl a.tmps)).run P w=.ok vs.toArray w:=by
  rw[<-MO (xs:=fn.results),Za,run_map,h1];rfl
 rw[e,gb,hm,iS,ou];refine⟨_,rfl,?_⟩;cases d with
 |nil=>exact .tuple (vs:=[]) .nil|cons b f=>
  cases f with
  |nil=>exact b|cons g i=>
   have:=fF.tuple (.cons b (.cons g i));simpa[uS] using this
open Classical in
def dL.intro{f:FuncId}{fn:Func}{c:Code}{args:List AV}{Post:AV->cW->Prop}(K:P.funcs[f]?=some fn)(M:fn.body=some c)(q:jm P f=true)(hlen:args.length<=fn.ntmps)
  (h:fg P T fn.ntmps c (uL P fn.results.toList Post) (LX args) H):dL P T f args H Post:=by
 refine⟨q,λG F w vs hg E=>?_⟩;refine calls_of_wp K M ?_;have s:args.length=vs.length:=E.length
 let ρ:Maps:={G:=G,n:=H.length,L:=λ_ _=>0,lg:=λ_=>0,A:=λ_ _=>none,ag:=λ_=>0}
 let R:Nat->oM:=λb=>if∃o,o<H.length/\G o=b then .jX else .free
 have hw:WR T fn.ntmps w.heap.size ρ F R (LX args) H {tmps:=vs.toArray++Array.replicate (fn.ntmps-vs.toArray.size) undef,defers:=[]} w:=by
  refine⟨hg,?_,rfl,?_,rfl,λ_=>rfl,λ_=>rfl,?_,?_,?_,?_,?_,gu _⟩
  ·simp only[Array.size_append,UT,Array.size_replicate];omega
  ·intro t;show fG F ρ (args.getD t (.tuple [])) _;rcases qu t args.length with ht|ht
   ·obtain⟨v,x,y⟩:=E.get (oO ht)
    have z:args.getD t (.tuple [])=args[t]:=by simp[ht]
    have B:(vs.toArray++Array.replicate (fn.ntmps-vs.toArray.size) undef).getD t undef=v:=by
     rw[Jj,Array.getElem?_append_left (by simpa[<-s] using ht)];simp[x]
    rw[z,B];exact .p y
   ·have z:args.getD t (.tuple [])=.tuple []:=by simp[TO ht]
    have B:(vs.toArray++Array.replicate (fn.ntmps-vs.toArray.size) undef).getD t undef=undef:=by
     rw[Jj,Array.getElem?_append_right (by simpa[<-s] using ht),Array.getElem?_replicate]
     split<;>rfl
    rw[z,B];exact D4
  ·intro d cs hd;cases hd
  ·intro k m N;cases N
  ·intro b j v x d;show(if∃o,o<H.length/\G o=b then oM.jX else .free)≠ .box d
   split<;>simp
  ·intro o C;show(if∃o',o'<H.length/\G o'=G o then oM.jX else .free)=.jX;rw[cO ⟨o,C,rfl⟩]
  ·intro b O;show(if∃o,o<H.length/\G o=b then oM.jX else .free)=.free;rw[cK];rintro⟨o,C,rfl⟩;obtain⟨U,Q,_⟩:=hg.jX o _ (oO C);have:=nY Q;omega
 refine wp_mono (h G F H.length w _ w ⟨ρ,F,R,hw,Ext.refl⟩) ?_;rintro e I w' ⟨fr',H',a,ρ',F',V,i,D⟩
 have key:∀{l:List AV},H6 P fr' H' fn.results.toList=some l->Post (uS l) H'->I.defers=[]/\∃v,(results fn I.tmps).run P w'=.ok v w'/\∃r H' J G' F',Post r H'/\Ending.returned v=.returned J/\GW T G' F' H' w'/\fF F' G' H'.length r J/\Ext w.heap.size G F H.length w G' F' H'.length w':=by
  intro l u S;obtain⟨v,x,y⟩:=Mv i u;rw[i.hn] at y;exact⟨i.defers,v,x,_,_,v,_,_,S,rfl,i.g,y,D⟩
 cases e with
 |normal=>
  simp only[uL] at a
  split at a
  ·rename_i l u;exact key u a
  ·exact a.elim
 |ret=>
  simp only[uL] at a
  split at a
  ·rename_i l u;exact key u a
  ·exact a.elim
 |_=>exact a.elim
end
end Go.ke
