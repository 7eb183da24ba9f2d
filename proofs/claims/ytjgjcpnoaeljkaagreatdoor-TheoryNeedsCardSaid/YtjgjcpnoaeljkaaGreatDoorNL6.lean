/- Part of the proof of TheoryNeeds: layer. -/
import Derived.Laws.IdiomStrings
import Derived.Scope
import Derived.Test.YtjgjcpnoaeljkaaGreatDoorNL5
set_option linter.all false
namespace Go.kC
open Go
def iS(P:Program)(f:FuncId):Bool:=
 match P.funcs[f]?with
 |some fn=>fn.body.isSome&&fn.name != "runtime.NumGoroutine"
 |none=>false
def ec(P:Program)(T:dt)(f:FuncId)(args:List AV)(H:cZ)(Post:AV->cZ->Prop):Prop:=
 iS P f=true/\∀(G:Nat->Nat) (F:jo) (w:World) (vs:List Value),GW T G F H w->fG F G H.length args vs->Calls P f vs.toArray w λe w'=>∃r H' v G' F',Post r H'/\e=.returned v/\GW T G' F' H' w'/\fE F' G' H'.length r v/\Ext w.heap.size G F H.length w G' F' H'.length w'
def ds(P:Program)(T:dt)(f:FuncId)(args:List AV)(H:cZ)(r:AV)(H':cZ):Prop:=ec P T f args H λb a=>b=r/\a=H'
theorem ec.mono{P:Program}{T:dt}{f:FuncId}{args:List AV}{H:cZ}{Post Post':AV->cZ->Prop}(h:ec P T f args H Post)(a:∀r H',Post r H'->Post' r H'):ec P T f args H Post':=
 ⟨h.1,λG F w vs hg b=>(h.2 G F w vs hg b).mono λ_ _ ⟨r,H',v,G',F',c,d⟩=>⟨r,H',v,G',F',a _ _ c,d⟩⟩
def ds.post{P:Program}{T:dt}{f:FuncId}{args:List AV}{H H':cZ}{r:AV}{Post:AV->cZ->Prop}(h:ds P T f args H r H')(a:Post r H'):ec P T f args H Post:=
 ec.mono h λi b ⟨c,d⟩=>by subst c;subst d;exact a
def mM(P:Program)(T:dt)(a:AV)(args:List AV)(H:cZ)(Post:AV->cZ->Prop):Prop:=
 match a with
 |.func (.func g) first cap=>ec P T g (first++args++cap) H Post
 |_=>False
section
variable{P:Program} {T:dt} {n:Nat} {G0:Nat->Nat} {F0:jo} {n0:Nat} {w0:World} {fr:Fr} {H:cZ} {a:Act} {w:World}
open Classical in
def WR.called{ρ:Maps}{F:jo}{R:Nat->nb}{B0:Nat}(h:WR T n B0 ρ F R fr H a w){G':Nat->Nat}{F':jo}{H':cZ}{w':World}(hg:GW T G' F' H' w')
  (l:Ext w.heap.size ρ.G F H.length w G' F' H'.length w'):∃ρ' u,ρ'.G=G'/\ρ'.n=H'.length/\WR T n B0 ρ' F' u fr H' a w':=by
 let ρ':Maps:={ρ with G:=G',n:=H'.length}
 let u:Nat->nb:=λb=>if∃o,H.length<=o/\o<H'.length/\G' o=b then .jU else R b
 have A:Grow F F' ρ.G G' ρ.n H'.length:=by
  refine⟨λb o v K=>?_,by rw[h.hn];exact l.len,λo s=>l.hG o (by rw[<-h.hn];exact s)⟩;exact l.mF b o v (h.ae9 K) K
 have x:tk F F' ρ ρ':=⟨A,λ_=>gO _,λ_ _ _=>rfl,λ_=>gO _,λ_ _ _=>rfl⟩
 have f:∀b,b<w.heap.size->u b=R b:=by
  intro b hb;show(if∃o,H.length<=o/\o<H'.length/\G' o=b then nb.jU else R b)=R b;rw[cO];rintro⟨o,h1,r,rfl⟩;have:=l.HV o h1 r;omega
 have q:∀b,R b≠ .jU->∀o,o<H.length->ρ.G o≠b:=by
  rintro b hb o s rfl;exact hb (h.na o s)
 refine⟨ρ',u,rfl,rfl,⟨hg,h.size,h.defers,h.env.grow x,rfl,h.lg,h.ag,?_,?_,?_,?_,?_,zS h.qi l.size⟩⟩
 .intro d cs M;obtain⟨h1,r,B,vs,ty,t,C⟩:=h.box d cs M;have i:=oz t;exact⟨h1,by rw[f _ i];exact r,B,vs,ty,(l.heap _ i (q _ (by rw[r];simp))).trans t,C.mono λ_ _ _ h=>h.grow x⟩
 .intro k m N b c sz O;obtain⟨h1,r,B,D,⟨vs,ty,t,C⟩,P⟩:=h.tok k m N b c sz O;have i:=oz t;refine⟨h1,by rw[f _ i];exact r,B,D,⟨vs,ty,(l.heap _ i (q _ (by rw[r];simp))).trans t,C⟩,λj Q=>?_⟩;rw[l.hF b j i (q _ (by rw[r];simp))];exact P j Q
 .intro b j v L;rcases sH b w.heap.size with hb|hb
  .rw[f b hb]
   by_cases y:∃o,o<H.length/\ρ.G o=b
   .obtain⟨o,s,rfl⟩:=y;rw[h.na o s];simp
   .rw[l.hF b j hb λo s e=>y ⟨o,s,e⟩] at L;exact h.qF b j v L
  .intro d;show(if∃o,H.length<=o/\o<H'.length/\G' o=b then nb.jU else R b)≠ .box d
   split
   .simp
   .rw[h.k4 b hb];simp
 .intro o s;rcases sH o H.length with h1|h1
  .have I:=h.na o h1
   have i:ρ.G o<w.heap.size:=by
    rcases sH (ρ.G o) w.heap.size with h'|h'
    .exact h'
    .rw[h.k4 _ h'] at I;cases I
   show u (G' o)=.jU;rw[l.hG o h1,f _ i];exact I
  .show(if∃o',H.length<=o'/\o'<H'.length/\G' o'=G' o then nb.jU else R (G' o))=.jU;rw[cS ⟨o,h1,s,rfl⟩]
 .intro b hb;show(if∃o,H.length<=o/\o<H'.length/\G' o=b then nb.jU else R b)=.free;rw[cO]
  .exact h.k4 b (zS l.size hb)
  .rintro⟨o,h1,r,rfl⟩;have J:H'[o]?=some H'[o]:=l5 r;obtain⟨ob,t,_⟩:=hg.jU o _ J;have:=oz t;omega
end
def xb(E:List Nat)(dst:Option Nat)(v:AV)(K:Fr->cZ->Prop)(fr:Fr)(H:cZ):Prop:=
 if dst.any E.contains then(match v with|.slice _ l=>K (fr.put dst (.qU H.length 0 l.length l.length)) (H++[l.flatMap AV.cells])|_=>False)else K (fr.put dst v) H
def Nh(P:Program)(dst:Option Nat)(s d:TypeId)(x:AV)(K:Fr->cZ->Prop)(fr:Fr)(H:cZ):Prop:=
 match Bn P s d x with
 |some v=>K (fr.put dst v) H|none=>match P.underlying s,P.underlying d,x with
  |some .string,some (.slice e),.sc (.string y)=>P.underlying e=some (.int .u8)/\y.size<=jn/\∀cap k,y.size<=cap->K (fr.put dst (.qU H.length 0 y.size cap)) (H++[oq y++wu k])|_,_,_=>False
def o7(P:Program)(T:dt)(E:List Nat)(o:Oper)(K:Fr->cZ->Prop)(fr:Fr)(H:cZ):Prop:=
 match o.op with
 |.alloc t=>match hO P t with
  |some z=>j9 E o.dst z K fr H|none=>False
 |.box _ x=>eo (ev T fr x)=true/\j9 E o.dst (ev T fr x).cells K fr H|.load t x=>match sP P fr H t (ev T fr x)with
  |some v=>K (fr.put o.dst v) H|none=>False
 |.store t x y=>o.dst=none/\kQ P t (ev T fr x) (ev T fr y) K fr H|.buildSlice t n ps=>match lZ P t n (ps.toList.map λp=>(p.1,ev T fr p.2))with
  |some v=>xb E o.dst v K fr H|none=>False
 |.makeSlice t l c=>match nD P t (ev T fr l) (ev T fr c)with
  |some v=>xb E o.dst v K fr H|none=>False
 |.convert s d x=>Nh P o.dst s d (ev T fr x) K fr H|.call c=>match c.callee with
  |.builtin .append=>(l9 P T c o.dst K fr H\/Cr P T c o.dst K fr H)\/BF P T c o.dst K fr H\/ou P T c o.dst K fr H|.builtin _=>match vo P T fr c with
   |some v=>K (fr.put o.dst v) H|none=>False
  |.value f=>mM P T (ev T fr f) (c.args.toList.map λx=>(ev T fr x).norm) H λr H'=>K (fr.put o.dst r) H'|.invoke _ _=>False
 |.makeMap _ none=>F6 o.dst K fr H|.mapUpdate t m k x=>o.dst=none/\rq P t (ev T fr m) (ev T fr k) (ev T fr x) K fr H|.insert t m k x=>o.dst=none/\rq P t (ev T fr m) (ev T fr k) (ev T fr x) K fr H|.lookup t x i ok=>match p6 P H t (ev T fr x) (ev T fr i) ok with
  |some v=>K (fr.put o.dst v) H|none=>False
 |.range t x=>GC P t (ev T fr x) o.dst K fr H|.next it false=>Jw (ev T fr it) o.dst K fr H|.entry it=>match Du (ev T fr it) H with
  |some v=>K (fr.put o.dst v) H|none=>False
 |_=>match wh P T fr o with
  |some v=>K (fr.put o.dst v) H|none=>False
def p0(n:Nat)(o:Oper):Bool:=o.dst.all (λd=>decide (d<n))&&o.op.operands.all iv
def tE{n:Nat}{o:Oper}(h:p0 n o=true):∀d,o.dst=some d->d<n:=by grind[p0]
def NO{n:Nat}{o:Oper}(h:p0 n o=true):o.op.operands.all iv=true:=by grind[p0]
section
variable{P:Program} {T:dt} {n:Nat} {G0:Nat->Nat} {F0:jo} {n0:Nat} {w0:World} {fr:Fr} {H:cZ} {a:Act} {w:World}
def Ka(w:World){f:FuncId}(h:iS P f=true)(args:Array Value):(callFunc f args).run P w=.ok (.enter f args) w:=by
 unfold iS at h
 split at h
 .rename_i fn a;simp only[fI] at h;simp[callFunc,a,h.2]
  grind
 .cases h
def Hn{ρ:Maps}{F:jo}{R:Nat->nb}(h:WR T n w0.heap.size ρ F R fr H a w)(r:Ext w0.heap.size G0 F0 n0 w0 ρ.G F H.length w)(s d:TypeId){e:TypeId}(y:ByteArray)(hs:P.underlying s=some .string)(t:P.underlying d=some (.slice e))
  (he:P.underlying e=some (.int .u8)) (f:y.size<=jn) {dst:Option Nat} (i:∀d,dst=some d->d<n):∃w',(convert s d (.string y)).run P w=.ok (.slice (some ⟨w.heap.size,0,none⟩) y.size (grownCap w y.size 0 e)) w'/\SR T n G0 F0 n0 w0 (fr.put dst (.qU H.length 0 y.size (grownCap w y.size 0 e))) (H++[oq y++wu (grownCap w y.size 0 e-y.size)]) (a.put dst (.slice (some ⟨w.heap.size,0,none⟩) y.size (grownCap w y.size 0 e))) w':=by
 have j:=grownCap_ge w y.size 0 e;have hle:=grownCap_le_maxLen w y.size 0 e (by have:y.size<=549755813888:=f;simp only[maxLen];omega);refine⟨_,run_bytes_of_string w s d e y hs t he,py h.drew r.drew (.cells (.inr (gO _)) ?_ ?_) i ?_⟩
 .have u:(bytesRow y (grownCap w y.size 0 e)).toList=Lib.strCells y++List.replicate (grownCap w y.size 0 e-y.size) (.int .u8 0):=by
   simp[bytesRow,Lib.strCells]
  rw[u];refine .append ?_ ?_
  .have x:=(uh (F:=F) (G:=ρ.G) (k:=ρ.n) (Lib.strCells y) (λv A=>by obtain⟨b,_,rfl⟩:=nw.1 A;rfl)).sW
   have B:(Lib.strCells y).map AV.sc=oq y:=by simp[Lib.strCells,oq]
   rwa [B] at x
  .generalize grownCap w y.size 0 e-y.size=k
   induction k with
   |zero=>exact .nil|succ k ih=>
    show fU _ (List.replicate (k+1) AV.undef) (List.replicate (k+1) _);exact .cons (.undef rfl) ih
 .intro c hc;rcases rA.1 hc with hc|hc
  .obtain⟨b,_,rfl⟩:=nw.1 hc;rfl
  .exact wz _ c hc
 .intro ρ' hG l q;have:=fE.qU (F:=F) (G:=ρ'.G) (n:=ρ'.n) (o:=H.length) (off:=0) (len:=y.size) (cap:=grownCap w y.size 0 e) (by rw[q];omega) j hle;rw[l] at this;exact this
def D3{E:List Nat}{o:Oper}{K:Fr->cZ->Prop}{Q:Exit->Act->World->Prop}(U:p0 n o=true)(hs:SR T n G0 F0 n0 w0 fr H a w)(h:o7 P T E o K fr H):o.wp P a w (λZ w'=>∃fr' H',K fr' H'/\SR T n G0 F0 n0 w0 fr' H' Z w') Q:=by
 obtain⟨ρ,F,R,hw,A⟩:=hs;have D:=tE U;have N:=NO U
 have M:∀{v:AV},(∃u,(execOp a.eval o).run P w=.ok (.value u) w/\fv F ρ v u)->K (fr.put o.dst v) H->o.wp P a w (λZ w'=>∃fr' H',K fr' H'/\SR T n G0 F0 n0 w0 fr' H' Z w') Q:=by
  rintro v ⟨u,O,hu⟩ J;unfold Oper.wp;rw[O];exact⟨_,_,J,ρ,F,R,hw.put D hu,A⟩
 have q:∀{s:Sem Value} {u:Value} {w':World},execOp a.eval o=(do pure (.value (<-s)))->s.run P w=.ok u w'->(∃fr' H',K fr' H'/\SR T n G0 F0 n0 w0 fr' H' (a.put o.dst u) w')->o.wp P a w (λZ w'=>∃fr' H',K fr' H'/\SR T n G0 F0 n0 w0 fr' H' Z w') Q:=by
  intro s u w' he O J;unfold Oper.wp;rw[he,gk,O];exact J
 obtain⟨dst,op,type,pos,after,guard⟩:=o;simp only at N D;have j:∀x∈op.operands,iv x=true:=λx A=>Fs.1 N x A;unfold o7 at h;simp only at h
 split at h
 .--alloc
  rename_i t
  split at h
  .rename_i cells an;obtain⟨z,hz,ao,aq,rfl⟩:=Jc an;have ar:=h
   have aw:∀vs,z≠ .tuple vs:=by rintro vs rfl;simp[ofValue,eo] at aq
   obtain⟨ad,ax⟩:=Av ao aw;refine q (s:=Instr.alloc t true (.tuple #[])) rfl (Qc w hz) ?_;refine D7 hw A ar D t ?_ ?_
   .rw[ad];exact(pW F ρ.G ρ.n _ ax).sW.mono λ_ _ _ h=>.p h
   .rw[ad];intro c W;obtain⟨u,_,rfl⟩:=nw.1 W;exact xB u
  .exact h.elim
 .--box
  rename_i t x;obtain⟨h1,h2⟩:=h;have I:=fA hw.env hw.gv x (j x (by simp[Op.operands]));exact q (s:=Instr.box t (a.eval x)) rfl rfl (D7 hw A h2 D t (I.cells (gT h1)) (I.r7 (gT h1)))
 .--load
  rename_i t x
  split at h
  .rename_i v C;have I:=fA hw.env hw.gv x (j x (by simp[Op.operands]));obtain⟨u,hu,O⟩:=JR hw C I;exact q (s:=Instr.loadAt t (a.eval x)) rfl hu ⟨_,_,h,ρ,F,R,hw.put D O,A⟩
  .exact h.elim
 .--store
  rename_i t x y;obtain⟨L,h⟩:=h;subst L;have I:=fA hw.env hw.gv x (j x (by simp[Op.operands]));have ay:=fA hw.env hw.gv y (j y (by simp[Op.operands]));obtain⟨fr',H',w',b,J,hs⟩:=NU hw A h I ay;unfold Oper.wp;have e:execOp a.eval {dst:=none,op:=.store t x y,type:=type,pos:=pos,after:=after,guard:=guard}=(do Instr.storeAt t (a.eval x) (a.eval y);pure .skip):=rfl;rw[e,gk,b];exact⟨fr',H',J,hs⟩
 .--buildSlice
  rename_i t k ps
  split at h
  .rename_i v C;have hp:=Ge hw.env hw.gv ps.toList λp hp=>j p.2 (by simp[Op.operands];exact⟨p.1,by simpa using hp⟩)
   have e:(ps.toList.map λp=>(p.1,a.eval p.2)).toArray=ps.map λp=>(p.1,a.eval p.2):=by rw[<-NP,St]
   unfold xb at h
   split at h
   .split at h
    .obtain⟨u,w',b,hs⟩:=B6 hw A C hp D;rw[e] at b;unfold Oper.wp;simp only[execOp,gk,b,jj];exact⟨_,_,h,hs⟩
    .exact h.elim
   .obtain⟨u,w',b,hs⟩:=CW hw A C hp D;rw[e] at b;unfold Oper.wp;simp only[execOp,gk,b,jj];exact⟨_,_,h,hs⟩
  .exact h.elim
 .--makeSlice
  rename_i t l c
  split at h
  .rename_i v C;have h1:=fA hw.env hw.gv l (j l (by simp[Op.operands]));have h2:=fA hw.env hw.gv c (j c (by simp[Op.operands]));unfold xb at h
   split at h
   .split at h
    .obtain⟨u,w',b,hs⟩:=CG hw A C h1 h2 D;exact q (s:=Instr.makeSlice t (a.eval l) (a.eval c)) rfl b ⟨_,_,h,hs⟩
    .exact h.elim
   .obtain⟨u,w',b,hs⟩:=EV hw A C h1 h2 D;exact q (s:=Instr.makeSlice t (a.eval l) (a.eval c)) rfl b ⟨_,_,h,hs⟩
  .exact h.elim
 .--convert
  rename_i t d x;have I:=fA hw.env hw.gv x (j x (by simp[Op.operands]));unfold Nh at h
  split at h
  .rename_i v C;refine M (v:=v) (AL w hw.g.Cp hw.env hw.gv N ?_) h;simp only[wh];exact C
  .split at h
   .rename_i e y hs az aA;obtain⟨he,ae,h⟩:=h;rw[aA] at I;have C:=e9 I;obtain⟨w',b,aB⟩:=Hn hw A t d y hs az he ae D;refine q (s:=convert t d (a.eval x)) rfl (by rw[C];exact b) ⟨_,_,h _ _ (by simpa using grownCap_ge w y.size 0 e),aB⟩
   .exact h.elim
 .--call
  rename_i c;obtain⟨callee,args,argTypes⟩:=c;have B:∀x∈args.toList,iv x=true:=λx A=>j x (by simp[Op.operands,Call.operands,wU.1 A])
  split at h
  .--append
   rename_i W;simp only at W;subst W;obtain⟨u,w',fr',H',b,J,hs⟩:=h.elim (λh=>h.elim (λh=>Kg (ty:=type) hw A h D B) (λh=>HD (ty:=type) hw A h D B)) (λh=>h.elim (λh=>Ic (ty:=type) hw A h D B) (λh=>Iv (ty:=type) hw A h D B));unfold Oper.wp execOp;simp only[resolve,invoke,builtin,gk,oA,jj];rw[b];exact⟨fr',H',J,hs⟩
  .--af builtin
   split at h
   .rename_i v C;refine M (v:=v) (AL w hw.g.Cp hw.env hw.gv N ?_) h;simp only[wh];exact C
   .exact h.elim
  .--a V value
   rename_i f W;simp only at W;subst W;unfold mM at h;have ah:=fA hw.env hw.gv f (j f (by simp[Op.operands,Call.operands]))
   split at h
   .rename_i g first cap hf
    rw[hf] at ah;obtain⟨vf,vc,C,aC,aD⟩:=zu ah;obtain⟨ai,X⟩:=h;have S:=FB hw.env hw.gv args.toList B
    have Y:fG F ρ.G H.length (first++(args.toList.map λx=>(ev T fr x).norm)++cap) (vf++args.toList.map a.eval++vc):=by
     rw[<-hw.hn];exact((fG.ox aC).append S).append (.ox aD)
    have hC:=X ρ.G F w _ hw.g Y;unfold Oper.wp
    have e:(execOp a.eval {dst:=dst,op:=.call {callee:=.value f,args:=args,argTypes:=argTypes},type:=type,pos:=pos,after:=after,guard:=guard}).run P w=.ok (.enter g (vf++args.toList.map a.eval++vc).toArray) w:=by
     simp only[execOp,resolve,gk];rw[C];simp only[Deferred.ofValue,oA,jj,invoke];rw[Ka w ai]
     congr 2
     apply Dh.1;simp
    rw[e];show Calls P g _ w _;refine hC.mono ?_;rintro e' w' ⟨r,H',v,G',F',J,rfl,aE,aF,ak⟩;obtain⟨ρ',R',hG,aG,aH⟩:=hw.called aE ak;refine⟨_,_,J,ρ',F',R',aH.put D (.p ?_),?_⟩
    .rw[hG,aG];exact aF
    .rw[hG];exact A.trans (ak.mono hw.qi)
   .exact h.elim
  .exact h.elim
 .--makeMap
  obtain⟨v,w',b,hs⟩:=IS (P:=P) hw A D;exact q (s:=Instr.makeMap _ none) rfl b ⟨_,_,h,hs⟩
 .--mapUpdate
  rename_i t m k x;obtain⟨L,h⟩:=h;subst L;obtain⟨fr',H',w',b,J,hs⟩:=BQ hw A h (fA hw.env hw.gv m (j m (by simp[Op.operands]))) (fA hw.env hw.gv k (j k (by simp[Op.operands]))) (fA hw.env hw.gv x (j x (by simp[Op.operands])));unfold Oper.wp;have e:execOp a.eval {dst:=none,op:=.mapUpdate t m k x,type:=type,pos:=pos,after:=after,guard:=guard}=(do Instr.mapUpdate t (a.eval m) (a.eval k) (a.eval x);pure .skip):=rfl;rw[e,gk,b];exact⟨fr',H',J,hs⟩
 .--insert
  rename_i t m k x;obtain⟨L,h⟩:=h;subst L;obtain⟨fr',H',w',b,J,hs⟩:=BQ hw A h (fA hw.env hw.gv m (j m (by simp[Op.operands]))) (fA hw.env hw.gv k (j k (by simp[Op.operands]))) (fA hw.env hw.gv x (j x (by simp[Op.operands])));unfold Oper.wp;have e:execOp a.eval {dst:=none,op:=.insert t m k x,type:=type,pos:=pos,after:=after,guard:=guard}=(do Instr.mapUpdate t (a.eval m) (a.eval k) (a.eval x);pure .skip):=rfl;rw[e,gk,b];exact⟨fr',H',J,hs⟩
 .--lookup
  rename_i t x i ok
  split at h
  .rename_i v C;obtain⟨u,hu,O⟩:=M' hw C (fA hw.env hw.gv x (j x (by simp[Op.operands]))) (fA hw.env hw.gv i (j i (by simp[Op.operands])));exact q (s:=Instr.lookup t (a.eval x) (a.eval i) ok) rfl hu ⟨_,_,h,ρ,F,R,hw.put D O,A⟩
  .exact h.elim
 .--range
  rename_i t x;obtain⟨v,w',fr',H',b,J,hs⟩:=Ng hw A h D (fA hw.env hw.gv x (j x (by simp[Op.operands])));exact q (s:=Instr.range t (a.eval x)) rfl b ⟨_,_,J,hs⟩
 .--next
  rename_i it;obtain⟨v,w',fr',H',b,J,hs⟩:=P2 hw A type h D (fA hw.env hw.gv it (j it (by simp[Op.operands])));exact q (s:=Instr.next (a.eval it) false type) rfl b ⟨_,_,J,hs⟩
 .--entry
  rename_i it
  split at h
  .rename_i v C;obtain⟨u,hu,O⟩:=Ql (P:=P) hw C (fA hw.env hw.gv it (j it (by simp[Op.operands])));exact q (s:=Instr.entry (a.eval it)) rfl hu ⟨_,_,h,ρ,F,R,hw.put D O,A⟩
  .exact h.elim
 .--all others only compute
  split at h
  .rename_i v C;exact M (v:=v) (AL w hw.g.Cp hw.env hw.gv N C) h
  .exact h.elim
end
end Go.kC
namespace Go.kC
open Go
def Am(P:Program)(T:dt)(E:List Nat)(ops:Array Oper)(o:Oper)(K:Fr->cZ->Prop)(fr:Fr)(H:cZ):Prop:=
 match o.guard with
 |none=>o7 P T E o K fr H|some (j,want)=>
  match(ops[j]?).bind (·.dst)with
  |some d=>
   match fr.env d with
   |.sc (.bool b)=>if b=want then o7 P T E o K fr H else K (fr.put o.dst (.tuple [])) H|.tuple _=>K (fr.put o.dst (.tuple [])) H|_=>False
  |none=>False
def gn(P:Program)(T:dt)(E:List Nat)(ops:Array Oper):List Oper->(Fr->cZ->Prop)->Fr->cZ->Prop
 |[],K,fr,H=>K fr H|o::rest,K,fr,H=>Am P T E ops o (λfr H=>gn P T E ops rest K fr H) fr H
def vL(n:Nat)(ops:Array Oper):Bool:=ops.all (p0 n)
section
variable{P:Program} {T:dt} {n:Nat} {G0:Nat->Nat} {F0:jo} {n0:Nat} {w0:World} {fr:Fr} {H:cZ} {a:Act} {w:World}
def DO{F:jo}{ρ:Maps}:fv F ρ (.tuple []) undef:=.p (.tuple (vs:=[]) .nil)
theorem SR.put(hs:SR T n G0 F0 n0 w0 fr H a w){d:Option Nat}(c:∀b,d=some b->b<n):SR T n G0 F0 n0 w0 (fr.put d (.tuple [])) H (a.put d undef) w:=by
 obtain⟨ρ,F,R,hw,f⟩:=hs;exact⟨ρ,F,R,hw.put c DO,f⟩
def OH(hs:SR T n G0 F0 n0 w0 fr H a w){ops:Array Oper}{j d:Nat}{b:Bool}(i:(ops[j]?).bind (·.dst)=some d)(he:fr.env d=.sc (.bool b)):yielded ops a.tmps j=some b:=by
 obtain⟨ρ,F,R,hw,k⟩:=hs;have h:=hw.env d;rw[he] at h;have c:=e9 h;unfold yielded;cases f:a.tmps[d]?with
 |none=>rw[NA,f] at c;cases c
 |some v=>simp_all
def IB(hs:SR T n G0 F0 n0 w0 fr H a w){ops:Array Oper}{j d:Nat}{l:List AV}(b:(ops[j]?).bind (·.dst)=some d)(he:fr.env d=.tuple l):yielded ops a.tmps j=none:=by
 obtain⟨ρ,F,R,hw,f⟩:=hs;have h:=hw.env d;rw[he] at h;unfold yielded;rw[b];simp only[Option.bind_some];cases c:a.tmps[d]?with
 |none=>rfl|some v=>
  rw[NA,c] at h;cases h with
  |cell h=>cases h with|p h=>cases h;rfl
def y8{E:List Nat}{ops:Array Oper}{i:Nat}{o:Oper}{K:Fr->cZ->Prop}{Q:Exit->Act->World->Prop}(hi:ops[i]?=some o)(c:p0 n o=true)(hs:SR T n G0 F0 n0 w0 fr H a w)
  (h:Am P T E ops o K fr H) {N:Act->World->Prop} (q:∀fr' H' k w',K fr' H'->SR T n G0 F0 n0 w0 fr' H' k w'->N k w'):wpOp P ops Q i N a w:=by
 unfold wpOp;simp only[hi];unfold Am at h
 split at h
 .rename_i hg;rw[cS (by simp[Region.wanted,hg])];exact .inl (Oper.wp_mono (λk w' ⟨fr',H',r,f⟩=>q fr' H' k w' r f) (D3 c hs h))
 .rename_i j want hg
  split at h
  .rename_i d t
   split at h
   .rename_i b he;have hy:=OH hs t he
    split at h
    .rename_i s;rw[cS (by simp[Region.wanted,hg,hy,s])];exact .inl (Oper.wp_mono (λk w' ⟨fr',H',r,f⟩=>q fr' H' k w' r f) (D3 c hs h))
    .rename_i s;rw[cO (by simp[Region.wanted,hg,hy,s])];exact q _ _ _ _ h (hs.put (tE c))
   .rename_i l he;have hy:=IB hs t he;rw[cO (by simp[Region.wanted,hg,hy])];exact q _ _ _ _ h (hs.put (tE c))
   .exact h.elim
  .exact h.elim
def F2{E:List Nat}{ops:Array Oper}{K:Fr->cZ->Prop}{Q:Exit->Act->World->Prop}(b:vL n ops=true)
  (j:∀fr' H' i w',K fr' H'->SR T n G0 F0 n0 w0 fr' H' i w'->Q .normal i w'):∀(l:List Oper) (k:Nat) (fr:Fr) (H:cZ) (a:Act) (w:World),l=ops.toList.drop k->SR T n G0 F0 n0 w0 fr H a w->gn P T E ops l K fr H->wpOps P ops Q (List.range' k l.length) a w:=by
 intro l
 induction l with
 |nil=>
  intro k fr H a w c hs h;simp only[wC,List.range'_zero,wpOps];exact j _ _ _ _ h hs
 |cons o l ih=>
  intro k fr H a w c hs h
  have d:k<ops.toList.length:=by
   rcases sH k ops.toList.length with h'|h'
   .exact h'
   .rw[HE h'] at c;cases c
  have q:=Ko d;rw[q] at c;injection c with r s
  have hi:ops[k]?=some o:=by grind
  simp only[kY,Rr];rw[wpOps_cons];have f:p0 n o=true:=Fs.1 b o (Uq hi);refine y8 hi f hs h ?_
  grind
end
def fa(P:Program)(T:dt)(n:Nat)(c:Code)(Q:Exit->Fr->cZ->Prop)(fr:Fr)(H:cZ):Prop:=
 ∀G0 F0 n0 w0 a w,SR T n G0 F0 n0 w0 fr H a w->c.wp P (λe b w'=>∃fr' H',Q e fr' H'/\SR T n G0 F0 n0 w0 fr' H' b w') a w
def FM(K:Fr->cZ->Prop)(Q:Exit->Fr->cZ->Prop):Exit->Fr->cZ->Prop
 |.normal,fr,H=>K fr H|e,fr,H=>Q e fr H
def FQ(id:Nat)(Q:Exit->Fr->cZ->Prop):Exit->Fr->cZ->Prop
 |.exit a,fr,H=>if a=id then Q .normal fr H else Q (.exit a) fr H|e,fr,H=>Q e fr H
section
variable{P:Program} {T:dt} {n:Nat} {Q Q':Exit->Fr->cZ->Prop} {fr:Fr} {H:cZ}
theorem fa.mono{c:Code}(h:fa P T n c Q fr H)(b:∀e fr H,Q e fr H->Q' e fr H):fa P T n c Q' fr H:=
 λG0 F0 n0 w0 a w hs=>wp_mono (h G0 F0 n0 w0 a w hs) λ_ _ _ ⟨fr',H',d,f⟩=>⟨fr',H',b _ _ _ d,f⟩
def fa.skip(h:Q .normal fr H):fa P T n .skip Q fr H:=λ_ _ _ _ _ _ hs=>wp_skip ⟨_,_,h,hs⟩
def fa.label{l:Nat}(h:Q .normal fr H):fa P T n (.label l) Q fr H:=λ_ _ _ _ _ _ hs=>wp_label ⟨_,_,h,hs⟩
def fa.scope{c:Code}(h:fa P T n c (λe fr H=>(match e with|.goto _=>False|_=>True)/\Q e fr H) fr H):fa P T n (.scope c) Q fr H:=
 λG0 F0 n0 w0 a w hs=>wp_scope_straight (wp_mono (h G0 F0 n0 w0 a w hs) λe _ _ ⟨fr',H',b,d⟩=>by
  cases e<;>first|exact b.1.elim|exact⟨fr',H',b.2,d⟩)
def fa.exit{id:Nat}(h:Q (.exit id) fr H):fa P T n (.exit id) Q fr H:=λ_ _ _ _ _ _ hs=>wp_exit ⟨_,_,h,hs⟩
def fa.ret(h:Q .ret fr H):fa P T n .ret Q fr H:=λ_ _ _ _ _ _ hs=>wp_ret ⟨_,_,h,hs⟩
def fa.seq{x y:Code}(h:fa P T n x (FM (fa P T n y Q) Q) fr H):fa P T n (.seq x y) Q fr H:=by
 intro G0 F0 n0 w0 a w hs;refine wp_seq (wp_mono (h G0 F0 n0 w0 a w hs) ?_);rintro e d w' ⟨fr',H',b,c⟩
 cases e<;>first|exact b G0 F0 n0 w0 d w' c|exact⟨fr',H',b,c⟩
def fa.cond{c:Operand}{x y:Code}{t:Bool}(d:ev T fr c=.sc (.bool t))(f:iv c=true)(i:t=true->fa P T n x Q fr H)(j:t=false->fa P T n y Q fr H):fa P T n (.cond c x y) Q fr H:=by
 intro G0 F0 n0 w0 a w hs;have b:=hs;obtain⟨ρ,F,R,hw,k⟩:=b;have h:=fA hw.env hw.gv c f;rw[d] at h;exact wp_cond_split (e9 h) (λe=>i e G0 F0 n0 w0 a w hs) (λe=>j e G0 F0 n0 w0 a w hs)
def fa.block{id:Nat}{c:Code}(h:fa P T n c (FQ id Q) fr H):fa P T n (.block id c) Q fr H:=by
 intro G0 F0 n0 w0 a w hs;refine wp_block (wp_mono (h G0 F0 n0 w0 a w hs) ?_);rintro e i w' ⟨fr',H',b,d⟩;cases e with
 |exit f=>
  simp only[FQ,Exit.inBlock] at b|-
  grind
 |_=>exact⟨fr',H',b,d⟩
def fa.region{id:Nat}{ops:Array Oper}(E:List Nat)(b:vL n ops=true)(h:gn P T E ops ops.toList (Q .normal) fr H):fa P T n (.region id ops false) Q fr H:=by
 intro G0 F0 n0 w0 a w hs;refine wp_region ?_;have:=F2 (Q:=λe c w'=>∃fr' H',Q e fr' H'/\SR T n G0 F0 n0 w0 fr' H' c w') b (λfr' H' c w' d f=>⟨fr',H',d,f⟩) ops.toList 0 fr H a w aaL hs h;rw[RZ]
 grind
def ALp(P:Program)(T:dt)(n:Nat)(c:Code)(Q:Exit->Fr->cZ->Prop)(fr:Fr)(H:cZ):Prop:=
 ∀G0 F0 n0 w0 a w,SR T n G0 F0 n0 w0 fr H a w->∀(b:Frame) (k:List Item) (cs:List Frame),∃e d w',(∃fr' H',Q e fr' H'/\SR T n G0 F0 n0 w0 fr' H' d w')/\Arrives P (lone (b.at a (.code c::.inLoop c::k)) cs w) b k cs e d w'
def fa.loop{c:Code}(h:ALp P T n c Q fr H):fa P T n (.loop c) Q fr H:=by
 intro G0 F0 n0 w0 a w hs b k cs;obtain⟨e,f,w',i,d⟩:=h G0 F0 n0 w0 a w hs b k cs;exact⟨e,f,w',i,.of_steps (.one step_loop) d⟩
theorem ALp.round{c:Code}(h:fa P T n c (FM (ALp P T n c Q) Q) fr H):ALp P T n c Q fr H:=by
 intro G0 F0 n0 w0 a w hs b k cs;obtain⟨e,j,o,⟨fr',H',i,r⟩,d⟩:=h G0 F0 n0 w0 a w hs b (.inLoop c::k) cs
 have pass:∀e,e≠ .normal->Q e fr' H'->Arrives P (lone (b.at a (.code c::.inLoop c::k)) cs w) b (.inLoop c::k) cs e j o->∃e s w',(∃fr' H',Q e fr' H'/\SR T n G0 F0 n0 w0 fr' H' s w')/\Arrives P (lone (b.at a (.code c::.inLoop c::k)) cs w) b k cs e s w':=by
  intro e he t d;exact⟨e,j,o,⟨fr',H',t,r⟩,.pass (x:=.inLoop c) rfl (λ_ _=>.inl he) d⟩
 cases e with
 |normal=>
  have u:ALp P T n c Q fr' H':=i;obtain⟨v,y,A,q,f⟩:=u G0 F0 n0 w0 j o r b k cs;exact⟨v,y,A,q,.of_steps (Steps.trans d (.one step_inLoop)) f⟩
 |exit id=>exact pass _ aaL i d|goto l=>exact pass _ aaL i d|ret=>exact pass _ aaL i d|panic B=>exact pass _ aaL i d|outgrown=>exact pass _ aaL i d
end
def N_(args:List AV):Fr:={env:=λt=>args.getD t (.tuple []),box:=λ_=>none,gen:=λ_=>0,qd:=λ_=>none,eg:=λ_=>0}
def Hu(P:Program)(fr:Fr)(H:cZ):List ResultVar->Option (List AV)
 |[]=>some []|.tmp t::rest=>(Hu P fr H rest).map ((fr.env t).norm:: ·)|.cell a t::rest=>(sP P fr H t (fr.env a)).bind λv=>(Hu P fr H rest).map (v.norm:: ·)
def uj:List AV->AV
 |[x]=>x|l=>.tuple l
def uo(P:Program)(rs:List ResultVar)(Post:AV->cZ->Prop):Exit->Fr->cZ->Prop
 |.normal,fr,H|.ret,fr,H=>match Hu P fr H rs with
  |some l=>Post (uj l) H|none=>False
 |_,_,_=>False
section
variable{P:Program} {T:dt} {n:Nat} {fr:Fr} {H:cZ} {a:Act} {w:World}
def T0(tmps:Array Value)(x:ResultVar):Sem Value:=
 match x with
 |.tmp t=>pure (tmps.getD t undef)|.cell a t=>do loadVar t (<-asAddr (tmps.getD a undef))
def B_{t:TypeId}{u v:Value}(h:(Instr.loadAt t u).run P w=.ok v w):(do loadVar t (<-asAddr u)).run P w=.ok v w:=by
 unfold Instr.loadAt at h;cases u with
 |pointer p=>
  cases p with
  |none=>simp[Instr.sureAddr,gk,stuck,Sem.run,Result.andThen] at h
  |some a=>exact h
 |_=>simp[Instr.sureAddr,gk,stuck,Sem.run,Result.andThen] at h
def UR{ρ:Maps}{F:jo}{R:Nat->nb}{B0:Nat}(h:WR T n B0 ρ F R fr H a w):∀(rs:List ResultVar) (l:List AV),Hu P fr H rs=some l->∃vs:List Value,(rs.mapM (T0 a.tmps)).run P w=.ok vs w/\fG F ρ.G ρ.n l vs:=by
 intro rs
 induction rs with
 |nil=>intro l b;simp[Hu] at b;subst b;exact⟨[],rfl,.nil⟩
 |cons r rs ih=>
  intro l b;cases r with
  |tmp t=>
   simp only[Hu,Y1] at b;obtain⟨c,d,rfl⟩:=b;obtain⟨vs,f,i⟩:=ih c d;refine⟨a.tmps.getD t undef::vs,?_,.cons (h.env t).norm i⟩;simp only[YE,gk,T0,oA,jj,f]
  |cell j t=>
   simp only[Hu,acK,Y1] at b;obtain⟨v,o,c,d,rfl⟩:=b;obtain⟨vs,f,i⟩:=ih c d;obtain⟨u,hu,q⟩:=JR h o (h.env j);refine⟨u::vs,?_,.cons q.norm i⟩;have k:=B_ hu;simp only[YE];rw[gk];have e:(T0 a.tmps (.cell j t))=(do loadVar t (<-asAddr (a.tmps.getD j undef))):=rfl;rw[e,k,jj,gk,f];rfl
def LI{ρ:Maps}{F:jo}{R:Nat->nb}{B0:Nat}(h:WR T n B0 ρ F R fr H a w){fn:Func}{l:List AV}(c:Hu P fr H fn.results.toList=some l):∃v,(results fn a.tmps).run P w=.ok v w/\fE F ρ.G ρ.n (uj l) v:=by
 obtain⟨vs,d,f⟩:=UR (P:=P) h _ _ c
 have e:results fn a.tmps=(do
   let vs<-fn.results.mapM (T0 a.tmps)
   pure (if h:vs.size=1 then vs[0] else .tuple vs)):=rfl
 have hm:(fn.results.mapM (T0 a.tmps)).run P w=.ok vs.toArray w:=by
  rw[ad9,run_map,d];rfl
 rw[e,gk,hm,jj,oA];refine⟨_,rfl,?_⟩;cases f with
 |nil=>exact .tuple (vs:=[]) .nil|cons b i=>
  cases i with
  |nil=>exact b|cons j k=>
   have:=fE.tuple (.cons b (.cons j k));simpa[uj] using this
open Classical in
def ec.intro{f:FuncId}{fn:Func}{c:Code}{args:List AV}{Post:AV->cZ->Prop}(N:P.funcs[f]?=some fn)(O:fn.body=some c)(q:iS P f=true)(hlen:args.length<=fn.ntmps)
  (h:fa P T fn.ntmps c (uo P fn.results.toList Post) (N_ args) H):ec P T f args H Post:=by
 refine⟨q,λG F w vs hg J=>?_⟩;refine calls_of_wp N O ?_;have s:args.length=vs.length:=J.length
 let ρ:Maps:={G:=G,n:=H.length,L:=λ_ _=>0,lg:=λ_=>0,A:=λ_ _=>none,ag:=λ_=>0}
 let R:Nat->nb:=λb=>if∃o,o<H.length/\G o=b then .jU else .free
 have hw:WR T fn.ntmps w.heap.size ρ F R (N_ args) H {tmps:=vs.toArray++Array.replicate (fn.ntmps-vs.toArray.size) undef,defers:=[]} w:=by
  refine⟨hg,?_,rfl,?_,rfl,λ_=>rfl,λ_=>rfl,?_,?_,?_,?_,?_,gO _⟩
  .simp only[Array.size_append,YX,Array.size_replicate];omega
  .intro t;show fv F ρ (args.getD t (.tuple [])) _;rcases sH t args.length with ht|ht
   .obtain⟨v,x,y⟩:=J.get (l5 ht)
    have B:args.getD t (.tuple [])=args[t]:=by simp[ht]
    have C:(vs.toArray++Array.replicate (fn.ntmps-vs.toArray.size) undef).getD t undef=v:=by
     rw[NA,Array.getElem?_append_left (by simpa[<-s] using ht)];simp[x]
    rw[B,C];exact .p y
   .have B:args.getD t (.tuple [])=.tuple []:=by simp[abr ht]
    have C:(vs.toArray++Array.replicate (fn.ntmps-vs.toArray.size) undef).getD t undef=undef:=by
     rw[NA,Array.getElem?_append_right (by simpa[<-s] using ht),Array.getElem?_replicate]
     split<;>rfl
    rw[B,C];exact DO
  .intro d cs Q;cases Q
  .intro k m S;cases S
  .intro b j v x d;show(if∃o,o<H.length/\G o=b then nb.jU else .free)≠ .box d
   split<;>simp
  .intro o D;show(if∃o',o'<H.length/\G o'=G o then nb.jU else .free)=.jU;rw[cS ⟨o,D,rfl⟩]
  .intro b U;show(if∃o,o<H.length/\G o=b then nb.jU else .free)=.free;rw[cO];rintro⟨o,D,rfl⟩;obtain⟨ob,V,_⟩:=hg.jU o _ (l5 D);have:=oz V;omega
 refine wp_mono (h G F H.length w _ w ⟨ρ,F,R,hw,Ext.refl⟩) ?_;rintro e K w' ⟨fr',H',a,ρ',F',X,i,I⟩
 have key:∀{l:List AV},Hu P fr' H' fn.results.toList=some l->Post (uj l) H'->K.defers=[]/\∃v,(results fn K.tmps).run P w'=.ok v w'/\∃r H' M G' F',Post r H'/\Ending.returned v=.returned M/\GW T G' F' H' w'/\fE F' G' H'.length r M/\Ext w.heap.size G F H.length w G' F' H'.length w':=by
  intro l u W;obtain⟨v,x,y⟩:=LI i u;rw[i.hn] at y;exact⟨i.defers,v,x,_,_,v,_,_,W,rfl,i.g,y,I⟩
 cases e with
 |normal=>
  simp only[uo] at a
  split at a
  .rename_i l u;exact key u a
  .exact a.elim
 |ret=>
  simp only[uo] at a
  split at a
  .rename_i l u;exact key u a
  .exact a.elim
 |_=>exact a.elim
end
end Go.kC
