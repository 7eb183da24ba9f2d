/- Part of the proof of SchemeChains: layer. -/
import Derived.Laws.IdiomStrings
import Derived.Scope
import Derived.Test.YtpgdkkomegalnaaGreatDoorHL5
set_option linter.all false
namespace Go.lD
open Go
variable{B0 n:Nat}{E:List Nat}{F:la}{G':Nat->Nat}{H H':dV}{K:Fr->dV->Prop}{P:Program}{Post Post':AV->dV->Prop}{Q:Exit->Act->World->Prop}{R:Nat->oY}{T:eK}{args:List AV}{dst:Option Nat}{e:TypeId}{f:FuncId}{o:Oper}{w':World}{ρ:Maps}
def kK(P:Program)(f:FuncId):Bool:=
 match P.funcs[f]?with
 |some fn=>fn.body.isSome&&fn.name != "runtime.NumGoroutine"
 |none=>false
def fv(P:Program)(T:eK)(f:FuncId)(args:List AV)(H:dV)(Post:AV->dV->Prop):Prop:=
 kK P f=true/\∀(G:Nat->Nat) (F:la) (w:World) (vs:List Value),GW T G F H w->hO F G H.length args vs->Calls P f vs.toArray w λe w'=>∃r H' v G' F',Post r H'/\e=.returned v/\GW T G' F' H' w'/\gT F' G' H'.length r v/\Ext w.heap.size G F H.length w G' F' H'.length w'
def eG(P:Program)(T:eK)(f:FuncId)(args:List AV)(H:dV)(r:AV)(H':dV):Prop:=fv P T f args H λb a=>b=r/\a=H'
theorem fv.mono(h:fv P T f args H Post)(a:∀r H',Post r H'->Post' r H'):fv P T f args H Post':=
 ⟨h.1,λG F w vs hg b=>(h.2 G F w vs hg b).mono λ_ _ ⟨r,H',v,G',F',c,d⟩=>⟨r,H',v,G',F',a _ _ c,d⟩⟩
def eG.post{r:AV}(h:eG P T f args H r H')(a:Post r H'):fv P T f args H Post:=
 fv.mono h λi b ⟨c,d⟩=>by subst c;subst d;exact a
def oa(P:Program)(T:eK)(a:AV)(args:List AV)(H:dV)(Post:AV->dV->Prop):Prop:=
 match a with
 |.func (.func g) first cap=>fv P T g (first++args++cap) H Post
 |_=>False
section
variable{P:Program} {T:eK} {n:Nat} {G0:Nat->Nat} {F0:la} {n0:Nat} {w0:World} {fr:Fr} {H:dV} {a:Act} {w:World}
open Classical in
def WR.called(h:WR T n B0 ρ F R fr H a w){F':la}(hg:GW T G' F' H' w')
  (l:Ext w.heap.size ρ.G F H.length w G' F' H'.length w'):∃ρ' u,ρ'.G=G'/\ρ'.n=H'.length/\WR T n B0 ρ' F' u fr H' a w':=by
 let ρ':Maps:={ρ with G:=G',n:=H'.length}
 let u:Nat->oY:=λb=>if∃o,H.length<=o/\o<H'.length/\G' o=b then .ma else R b
 have A:Ha F F' ρ.G G' ρ.n H'.length:=by
  refine⟨λb o v K=>?_,by rw[h.hn];exact l.len,λo s=>l.hG o (by rw[<-h.hn];exact s)⟩;exact l.mF b o v (h.aj8 K) K
 have x:w6 F F' ρ ρ':=⟨A,λ_=>gY _,λ_ _ _=>rfl,λ_=>gY _,λ_ _ _=>rfl⟩
 have f:∀b,b<w.heap.size->u b=R b:=by
  intro b hb;show(if∃o,H.length<=o/\o<H'.length/\G' o=b then oY.ma else R b)=R b;rw[dK];rintro⟨o,h1,r,rfl⟩;have:=l.NP o h1 r;omega
 have q:∀b,R b≠ .ma->∀o,o<H.length->ρ.G o≠b:=by
  rintro b hb o s rfl;exact hb (h.oM o s)
 refine⟨ρ',u,rfl,rfl,⟨hg,h.size,h.defers,h.env.grow x,rfl,h.lg,h.ag,?_,?_,?_,?_,?_,z8 h.q8 l.size⟩⟩
 .intro d cs M;obtain⟨h1,r,B,vs,ty,t,C⟩:=h.box d cs M;have i:=qH t;exact⟨h1,by rw[f _ i];exact r,B,vs,ty,(l.heap _ i (q _ (by rw[r];simp))).trans t,C.mono λ_ _ _ h=>h.grow x⟩
 .intro k m N b c sz O;obtain⟨h1,r,B,D,⟨vs,ty,t,C⟩,P⟩:=h.tok k m N b c sz O;have i:=qH t;refine⟨h1,by rw[f _ i];exact r,B,D,⟨vs,ty,(l.heap _ i (q _ (by rw[r];simp))).trans t,C⟩,λj Q=>?_⟩;rw[l.hF b j i (q _ (by rw[r];simp))];exact P j Q
 .intro b j v L;rcases uC b w.heap.size with hb|hb
  .rw[f b hb]
   by_cases y:∃o,o<H.length/\ρ.G o=b
   .obtain⟨o,s,rfl⟩:=y;rw[h.oM o s];simp
   .rw[l.hF b j hb λo s e=>y ⟨o,s,e⟩] at L;exact h.qV b j v L
  .intro d;show(if∃o,H.length<=o/\o<H'.length/\G' o=b then oY.ma else R b)≠ .box d
   split
   .simp
   .rw[h.lZ b hb];simp
 .intro o s;rcases uC o H.length with h1|h1
  .have I:=h.oM o h1
   have i:ρ.G o<w.heap.size:=by
    rcases uC (ρ.G o) w.heap.size with h'|h'
    .exact h'
    .rw[h.lZ _ h'] at I;cases I
   show u (G' o)=.ma;rw[l.hG o h1,f _ i];exact I
  .show(if∃o',H.length<=o'/\o'<H'.length/\G' o'=G' o then oY.ma else R (G' o))=.ma;rw[dO ⟨o,h1,s,rfl⟩]
 .intro b hb;show(if∃o,H.length<=o/\o<H'.length/\G' o=b then oY.ma else R b)=.free;rw[dK]
  .exact h.lZ b (z8 l.size hb)
  .rintro⟨o,h1,r,rfl⟩;have J:H'[o]?=some H'[o]:=pE r;obtain⟨S,t,_⟩:=hg.ma o _ J;have:=qH t;omega
end
def J_(E:List Nat)(dst:Option Nat)(v:AV)(K:Fr->dV->Prop)(fr:Fr)(H:dV):Prop:=
 if dst.any E.contains then(match v with|.slice _ l=>K (fr.put dst (.zF H.length 0 l.length l.length)) (H++[l.flatMap AV.cells])|_=>False)else K (fr.put dst v) H
def aaL(P:Program)(dst:Option Nat)(s d:TypeId)(x:AV)(K:Fr->dV->Prop)(fr:Fr)(H:dV):Prop:=
 match aaF P s d x with
 |some v=>K (fr.put dst v) H|none=>match P.underlying s,P.underlying d,x with
  |some .string,some (.slice e),.sc (.string y)=>P.underlying e=some (.int .u8)/\y.size<=kG/\∀cap k,y.size<=cap->K (fr.put dst (.zF H.length 0 y.size cap)) (H++[qI y++yZ k])|_,_,_=>False
def rp(P:Program)(T:eK)(E:List Nat)(o:Oper)(K:Fr->dV->Prop)(fr:Fr)(H:dV):Prop:=
 match o.op with
 |.alloc t=>match jH P t with
  |some z=>ly E o.dst z K fr H|none=>False
 |.box _ x=>fG (ev T fr x)=true/\ly E o.dst (ev T fr x).cells K fr H|.load t x=>match uy P fr H t (ev T fr x)with
  |some v=>K (fr.put o.dst v) H|none=>False
 |.store t x y=>o.dst=none/\mj P t (ev T fr x) (ev T fr y) K fr H|.buildSlice t n ps=>match nE P t n (ps.toList.map λp=>(p.1,ev T fr p.2))with
  |some v=>J_ E o.dst v K fr H|none=>False
 |.makeSlice t l c=>match zB P t (ev T fr l) (ev T fr c)with
  |some v=>K (fr.put o.dst v) H|none=>False
 |.convert s d x=>aaL P o.dst s d (ev T fr x) K fr H|.call c=>match c.callee with
  |.builtin .append=>(nq P T c o.dst K fr H\/D9 P T c o.dst K fr H)\/DS P T c o.dst K fr H\/pS P T c o.dst K fr H|.builtin _=>match xx P T fr c with
   |some v=>K (fr.put o.dst v) H|none=>False
  |.value f=>oa P T (ev T fr f) (c.args.toList.map λx=>(ev T fr x).norm) H λr H'=>K (fr.put o.dst r) H'|.invoke _ _=>False
 |.makeMap _ none=>I' o.dst K fr H|.mapUpdate t m k x=>o.dst=none/\sG P t (ev T fr m) (ev T fr k) (ev T fr x) K fr H|.insert t m k x=>o.dst=none/\sG P t (ev T fr m) (ev T fr k) (ev T fr x) K fr H|.lookup t x i ok=>match ve P H t (ev T fr x) (ev T fr i) ok with
  |some v=>K (fr.put o.dst v) H|none=>False
 |.range t x=>JK P t (ev T fr x) o.dst K fr H|.next it false=>Mz (ev T fr it) o.dst K fr H|.entry it=>match Fb (ev T fr it) H with
  |some v=>K (fr.put o.dst v) H|none=>False
 |_=>match zx P T fr o with
  |some v=>K (fr.put o.dst v) H|none=>False
def sS(n:Nat)(o:Oper):Bool:=o.dst.all (λd=>decide (d<n))&&o.op.operands.all jw
theorem zs(h:sS n o=true):∀d,o.dst=some d->d<n:=by grind[sS]
theorem QI(h:sS n o=true):o.op.operands.all jw=true:=by grind[sS]
section
variable{P:Program} {T:eK} {n:Nat} {G0:Nat->Nat} {F0:la} {n0:Nat} {w0:World} {fr:Fr} {H:dV} {a:Act} {w:World}
theorem No(w:World)(h:kK P f=true)(args:Array Value):(callFunc f args).run P w=.ok (.enter f args) w:=by
 unfold kK at h
 split at h
 .rename_i fn a;simp only[gJ] at h;simp[callFunc,a,h.2]
  grind
 .cases h
def KP(h:WR T n w0.heap.size ρ F R fr H a w)(r:Ext w0.heap.size G0 F0 n0 w0 ρ.G F H.length w)(s d:TypeId)(y:ByteArray)(hs:P.underlying s=some .string)(t:P.underlying d=some (.slice e))
  (he:P.underlying e=some (.int .u8)) (f:y.size<=kG) (i:∀d,dst=some d->d<n):∃w',(convert s d (.string y)).run P w=.ok (.slice (some ⟨w.heap.size,0,none⟩) y.size (grownCap w y.size 0 e)) w'/\SR T n G0 F0 n0 w0 (fr.put dst (.zF H.length 0 y.size (grownCap w y.size 0 e))) (H++[qI y++yZ (grownCap w y.size 0 e-y.size)]) (a.put dst (.slice (some ⟨w.heap.size,0,none⟩) y.size (grownCap w y.size 0 e))) w':=by
 have j:=grownCap_ge w y.size 0 e;have hle:=grownCap_le_maxLen w y.size 0 e (by have:y.size<=549755813888:=f;simp only[maxLen];omega);refine⟨_,run_bytes_of_string w s d e y hs t he,sZ h.drew r.drew (.cells (.inr (gY _)) ?_ ?_) i ?_⟩
 .have u:(bytesRow y (grownCap w y.size 0 e)).toList=Lib.strCells y++List.replicate (grownCap w y.size 0 e-y.size) (.int .u8 0):=by
   simp[bytesRow,Lib.strCells]
  rw[u];refine .append ?_ ?_
  .have x:=(wc (F:=F) (G:=ρ.G) (k:=ρ.n) (Lib.strCells y) (λv A=>by obtain⟨b,_,rfl⟩:=ql.1 A;rfl)).rV
   have B:(Lib.strCells y).map AV.sc=qI y:=by simp[Lib.strCells,qI]
   rwa [B] at x
  .generalize grownCap w y.size 0 e-y.size=k
   induction k with
   |zero=>exact .nil|succ k ih=>
    show hS _ (List.replicate (k+1) AV.undef) (List.replicate (k+1) _);exact .cons (.undef rfl) ih
 .intro c hc;rcases tl.1 hc with hc|hc
  .obtain⟨b,_,rfl⟩:=ql.1 hc;rfl
  .exact xX _ c hc
 .intro ρ' hG l q;have:=gT.zF (F:=F) (G:=ρ'.G) (n:=ρ'.n) (o:=H.length) (off:=0) (len:=y.size) (cap:=grownCap w y.size 0 e) (by rw[q];omega) j hle;rw[l] at this;exact this
def Gl(U:sS n o=true)(hs:SR T n G0 F0 n0 w0 fr H a w)(h:rp P T E o K fr H):o.wp P a w (λZ w'=>∃fr' H',K fr' H'/\SR T n G0 F0 n0 w0 fr' H' Z w') Q:=by
 obtain⟨ρ,F,R,hw,A⟩:=hs;have D:=zs U;have N:=QI U
 have M:∀{v:AV},(∃u,(execOp a.eval o).run P w=.ok (.value u) w/\gI F ρ v u)->K (fr.put o.dst v) H->o.wp P a w (λZ w'=>∃fr' H',K fr' H'/\SR T n G0 F0 n0 w0 fr' H' Z w') Q:=by
  rintro v ⟨u,O,hu⟩ J;unfold Oper.wp;rw[O];exact⟨_,_,J,ρ,F,R,hw.put D hu,A⟩
 have q:∀{s:Sem Value} {u:Value} {w':World},execOp a.eval o=(do pure (.value (<-s)))->s.run P w=.ok u w'->(∃fr' H',K fr' H'/\SR T n G0 F0 n0 w0 fr' H' (a.put o.dst u) w')->o.wp P a w (λZ w'=>∃fr' H',K fr' H'/\SR T n G0 F0 n0 w0 fr' H' Z w') Q:=by
  intro s u w' he O J;unfold Oper.wp;rw[he,h8,O];exact J
 obtain⟨dst,op,type,pos,after,guard⟩:=o;simp only at N D;have j:∀x∈op.operands,jw x=true:=λx A=>Lu.1 N x A;unfold rp at h;simp only at h
 split at h
 .--alloc
  rename_i t
  split at h
  .rename_i cells an;obtain⟨z,hz,ao,aq,rfl⟩:=MF an;have ar:=h
   have aw:∀vs,z≠ .tuple vs:=by rintro vs rfl;simp[ofValue,fG] at aq
   obtain⟨ad,ax⟩:=Cj ao aw;refine q (s:=Instr.alloc t true (.tuple #[])) rfl (S0 w hz) ?_;refine Gq hw A ar D t ?_ ?_
   .rw[ad];exact(rG F ρ.G ρ.n _ ax).rV.mono λ_ _ _ h=>.p h
   .rw[ad];intro c W;obtain⟨u,_,rfl⟩:=ql.1 W;exact za u
  .exact h.elim
 .--box
  rename_i t x;obtain⟨h1,h2⟩:=h;have I:=gG hw.env hw.iu x (j x (by simp[Op.operands]));exact q (s:=Instr.box t (a.eval x)) rfl rfl (Gq hw A h2 D t (I.cells (iU h1)) (I.s7 (iU h1)))
 .--load
  rename_i t x
  split at h
  .rename_i v C;have I:=gG hw.env hw.iu x (j x (by simp[Op.operands]));obtain⟨u,hu,O⟩:=MH hw C I;exact q (s:=Instr.loadAt t (a.eval x)) rfl hu ⟨_,_,h,ρ,F,R,hw.put D O,A⟩
  .exact h.elim
 .--store
  rename_i t x y;obtain⟨L,h⟩:=h;subst L;have I:=gG hw.env hw.iu x (j x (by simp[Op.operands]));have ay:=gG hw.env hw.iu y (j y (by simp[Op.operands]));obtain⟨fr',H',w',b,J,hs⟩:=Rt hw A h I ay;unfold Oper.wp;have e:execOp a.eval {dst:=none,op:=.store t x y,type:=type,pos:=pos,after:=after,guard:=guard}=(do Instr.storeAt t (a.eval x) (a.eval y);pure .skip):=rfl;rw[e,h8,b];exact⟨fr',H',J,hs⟩
 .--buildSlice
  rename_i t k ps
  split at h
  .rename_i v C;have hp:=I_ hw.env hw.iu ps.toList λp hp=>j p.2 (by simp[Op.operands];exact⟨p.1,by simpa using hp⟩)
   have e:(ps.toList.map λp=>(p.1,a.eval p.2)).toArray=ps.map λp=>(p.1,a.eval p.2):=by rw[<-PK,Xr]
   unfold J_ at h
   split at h
   .split at h
    .obtain⟨u,w',b,hs⟩:=DF hw A C hp D;rw[e] at b;unfold Oper.wp;simp only[execOp,h8,b,kD];exact⟨_,_,h,hs⟩
    .exact h.elim
   .obtain⟨u,w',b,hs⟩:=E6 hw A C hp D;rw[e] at b;unfold Oper.wp;simp only[execOp,h8,b,kD];exact⟨_,_,h,hs⟩
  .exact h.elim
 .--makeSlice
  rename_i t l c
  split at h
  .rename_i v C;obtain⟨u,w',b,hs⟩:=G2 hw A C (gG hw.env hw.iu l (j l (by simp[Op.operands]))) (gG hw.env hw.iu c (j c (by simp[Op.operands]))) D;exact q (s:=Instr.makeSlice t (a.eval l) (a.eval c)) rfl b ⟨_,_,h,hs⟩
  .exact h.elim
 .--convert
  rename_i t d x;have I:=gG hw.env hw.iu x (j x (by simp[Op.operands]));unfold aaL at h
  split at h
  .rename_i v C;refine M (v:=v) (CQ w hw.g.GL hw.env hw.iu N ?_) h;simp only[zx];exact C
  .split at h
   .rename_i e y hs az aA;obtain⟨he,ae,h⟩:=h;rw[aA] at I;have C:=gr I;obtain⟨w',b,aB⟩:=KP hw A t d y hs az he ae D;refine q (s:=convert t d (a.eval x)) rfl (by rw[C];exact b) ⟨_,_,h _ _ (by simpa using grownCap_ge w y.size 0 e),aB⟩
   .exact h.elim
 .--call
  rename_i c;obtain⟨callee,args,argTypes⟩:=c;have B:∀x∈args.toList,jw x=true:=λx A=>j x (by simp[Op.operands,Call.operands,yd.1 A])
  split at h
  .--append
   rename_i W;simp only at W;subst W;obtain⟨u,w',fr',H',b,J,hs⟩:=h.elim (λh=>h.elim (λh=>Ol (ty:=type) hw A h D B) (λh=>LY (ty:=type) hw A h D B)) (λh=>h.elim (λh=>L6 (ty:=type) hw A h D B) (λh=>Lz (ty:=type) hw A h D B));unfold Oper.wp execOp;simp only[resolve,invoke,builtin,h8,qb,kD];rw[b];exact⟨fr',H',J,hs⟩
  .--af builtin
   split at h
   .rename_i v C;refine M (v:=v) (CQ w hw.g.GL hw.env hw.iu N ?_) h;simp only[zx];exact C
   .exact h.elim
  .--a V value
   rename_i f W;simp only at W;subst W;unfold oa at h;have ah:=gG hw.env hw.iu f (j f (by simp[Op.operands,Call.operands]))
   split at h
   .rename_i g first cap hf
    rw[hf] at ah;obtain⟨vf,vc,C,aC,aD⟩:=BQ ah;obtain⟨ai,X⟩:=h;have S:=Jm hw.env hw.iu args.toList B
    have Y:hO F ρ.G H.length (first++(args.toList.map λx=>(ev T fr x).norm)++cap) (vf++args.toList.map a.eval++vc):=by
     rw[<-hw.hn];exact((hO.pV aC).append S).append (.pV aD)
    have hC:=X ρ.G F w _ hw.g Y;unfold Oper.wp
    have e:(execOp a.eval {dst:=dst,op:=.call {callee:=.value f,args:=args,argTypes:=argTypes},type:=type,pos:=pos,after:=after,guard:=guard}).run P w=.ok (.enter g (vf++args.toList.map a.eval++vc).toArray) w:=by
     simp only[execOp,resolve,h8];rw[C];simp only[Deferred.ofValue,qb,kD,invoke];rw[No w ai]
     congr 2
     apply F2.1;simp
    rw[e];show Calls P g _ w _;refine hC.mono ?_;rintro e' w' ⟨r,H',v,G',F',J,rfl,aE,aF,ak⟩;obtain⟨ρ',R',hG,aG,aH⟩:=hw.called aE ak;refine⟨_,_,J,ρ',F',R',aH.put D (.p ?_),?_⟩
    .rw[hG,aG];exact aF
    .rw[hG];exact A.trans (ak.mono hw.q8)
   .exact h.elim
  .exact h.elim
 .--makeMap
  obtain⟨v,w',b,hs⟩:=L2 (P:=P) hw A D;exact q (s:=Instr.makeMap _ none) rfl b ⟨_,_,h,hs⟩
 .--mapUpdate
  rename_i t m k x;obtain⟨L,h⟩:=h;subst L;obtain⟨fr',H',w',b,J,hs⟩:=DO hw A h (gG hw.env hw.iu m (j m (by simp[Op.operands]))) (gG hw.env hw.iu k (j k (by simp[Op.operands]))) (gG hw.env hw.iu x (j x (by simp[Op.operands])));unfold Oper.wp;have e:execOp a.eval {dst:=none,op:=.mapUpdate t m k x,type:=type,pos:=pos,after:=after,guard:=guard}=(do Instr.mapUpdate t (a.eval m) (a.eval k) (a.eval x);pure .skip):=rfl;rw[e,h8,b];exact⟨fr',H',J,hs⟩
 .--insert
  rename_i t m k x;obtain⟨L,h⟩:=h;subst L;obtain⟨fr',H',w',b,J,hs⟩:=DO hw A h (gG hw.env hw.iu m (j m (by simp[Op.operands]))) (gG hw.env hw.iu k (j k (by simp[Op.operands]))) (gG hw.env hw.iu x (j x (by simp[Op.operands])));unfold Oper.wp;have e:execOp a.eval {dst:=none,op:=.insert t m k x,type:=type,pos:=pos,after:=after,guard:=guard}=(do Instr.mapUpdate t (a.eval m) (a.eval k) (a.eval x);pure .skip):=rfl;rw[e,h8,b];exact⟨fr',H',J,hs⟩
 .--lookup
  rename_i t x i ok
  split at h
  .rename_i v C;obtain⟨u,hu,O⟩:=PU hw C (gG hw.env hw.iu x (j x (by simp[Op.operands]))) (gG hw.env hw.iu i (j i (by simp[Op.operands])));exact q (s:=Instr.lookup t (a.eval x) (a.eval i) ok) rfl hu ⟨_,_,h,ρ,F,R,hw.put D O,A⟩
  .exact h.elim
 .--range
  rename_i t x;obtain⟨v,w',fr',H',b,J,hs⟩:=PF hw A h D (gG hw.env hw.iu x (j x (by simp[Op.operands])));exact q (s:=Instr.range t (a.eval x)) rfl b ⟨_,_,J,hs⟩
 .--next
  rename_i it;obtain⟨v,w',fr',H',b,J,hs⟩:=SV hw A type h D (gG hw.env hw.iu it (j it (by simp[Op.operands])));exact q (s:=Instr.next (a.eval it) false type) rfl b ⟨_,_,J,hs⟩
 .--entry
  rename_i it
  split at h
  .rename_i v C;obtain⟨u,hu,O⟩:=Sw (P:=P) hw C (gG hw.env hw.iu it (j it (by simp[Op.operands])));exact q (s:=Instr.entry (a.eval it)) rfl hu ⟨_,_,h,ρ,F,R,hw.put D O,A⟩
  .exact h.elim
 .--all others only compute
  split at h
  .rename_i v C;exact M (v:=v) (CQ w hw.g.GL hw.env hw.iu N C) h
  .exact h.elim
end
end Go.lD
namespace Go.lD
open Go
variable{B0 i j:Nat}{E:List Nat}{F:la}{K:Fr->dV->Prop}{N:Act->World->Prop}{Post:AV->dV->Prop}{Q:Exit->Act->World->Prop}{R:Nat->oY}{args l:List AV}{c x y:Code}{d:Option Nat}{f:FuncId}{o:Oper}{ops:Array Oper}{t:TypeId}{ρ:Maps}
def EP(P:Program)(T:eK)(E:List Nat)(ops:Array Oper)(o:Oper)(K:Fr->dV->Prop)(fr:Fr)(H:dV):Prop:=
 match o.guard with
 |none=>rp P T E o K fr H|some (j,want)=>
  match(ops[j]?).bind (·.dst)with
  |some d=>
   match fr.env d with
   |.sc (.bool b)=>if b=want then rp P T E o K fr H else K (fr.put o.dst (.tuple [])) H|.tuple _=>K (fr.put o.dst (.tuple [])) H|_=>False
  |none=>False
def iI(P:Program)(T:eK)(E:List Nat)(ops:Array Oper):List Oper->(Fr->dV->Prop)->Fr->dV->Prop
 |[],K,fr,H=>K fr H|o::rest,K,fr,H=>EP P T E ops o (λfr H=>iI P T E ops rest K fr H) fr H
def zy(n:Nat)(ops:Array Oper):Bool:=ops.all (sS n)
section
variable{P:Program} {T:eK} {n:Nat} {G0:Nat->Nat} {F0:la} {n0:Nat} {w0:World} {fr:Fr} {H:dV} {a:Act} {w:World}
def Gn:gI F ρ (.tuple []) undef:=.p (.tuple (vs:=[]) .nil)
theorem SR.put(hs:SR T n G0 F0 n0 w0 fr H a w)(c:∀b,d=some b->b<n):SR T n G0 F0 n0 w0 (fr.put d (.tuple [])) H (a.put d undef) w:=by
 obtain⟨ρ,F,R,hw,f⟩:=hs;exact⟨ρ,F,R,hw.put c Gn,f⟩
theorem TO(hs:SR T n G0 F0 n0 w0 fr H a w){d:Nat}{b:Bool}(i:(ops[j]?).bind (·.dst)=some d)(he:fr.env d=.sc (.bool b)):yielded ops a.tmps j=some b:=by
 obtain⟨ρ,F,R,hw,k⟩:=hs;have h:=hw.env d;rw[he] at h;have c:=gr h;unfold yielded;cases f:a.tmps[d]?with
 |none=>rw[P0,f] at c;cases c
 |some v=>simp_all
def Me(hs:SR T n G0 F0 n0 w0 fr H a w){d:Nat}(b:(ops[j]?).bind (·.dst)=some d)(he:fr.env d=.tuple l):yielded ops a.tmps j=none:=by
 obtain⟨ρ,F,R,hw,f⟩:=hs;have h:=hw.env d;rw[he] at h;unfold yielded;rw[b];simp only[Nf];cases c:a.tmps[d]?with
 |none=>rfl|some v=>
  rw[P0,c] at h;cases h with
  |cell h=>cases h with|p h=>cases h;rfl
def GG(hi:ops[i]?=some o)(c:sS n o=true)(hs:SR T n G0 F0 n0 w0 fr H a w)
  (h:EP P T E ops o K fr H) (q:∀fr' H' k w',K fr' H'->SR T n G0 F0 n0 w0 fr' H' k w'->N k w'):wpOp P ops Q i N a w:=by
 unfold wpOp;simp only[hi];unfold EP at h
 split at h
 .rename_i hg;rw[dO (by simp[Region.wanted,hg])];exact .inl (Oper.wp_mono (λk w' ⟨fr',H',r,f⟩=>q fr' H' k w' r f) (Gl c hs h))
 .rename_i j want hg
  split at h
  .rename_i d t
   split at h
   .rename_i b he;have hy:=TO hs t he
    split at h
    .rename_i s;rw[dO (by simp[Region.wanted,hg,hy,s])];exact .inl (Oper.wp_mono (λk w' ⟨fr',H',r,f⟩=>q fr' H' k w' r f) (Gl c hs h))
    .rename_i s;rw[dK (by simp[Region.wanted,hg,hy,s])];exact q _ _ _ _ h (hs.put (zs c))
   .rename_i l he;have hy:=Me hs t he;rw[dK (by simp[Region.wanted,hg,hy])];exact q _ _ _ _ h (hs.put (zs c))
   .exact h.elim
  .exact h.elim
theorem Uq(b:zy n ops=true)
  (j:∀fr' H' i w',K fr' H'->SR T n G0 F0 n0 w0 fr' H' i w'->Q .normal i w'):∀(l:List Oper) (k:Nat) (fr:Fr) (H:dV) (a:Act) (w:World),l=ops.toList.drop k->SR T n G0 F0 n0 w0 fr H a w->iI P T E ops l K fr H->wpOps P ops Q (List.range' k l.length) a w:=by
 intro l
 induction l with
 |nil=>
  intro k fr H a w c hs h;simp only[wZ,List.range'_zero,wpOps];exact j _ _ _ _ h hs
 |cons o l ih=>
  intro k fr H a w c hs h
  have d:k<ops.toList.length:=by
   rcases uC k ops.toList.length with h'|h'
   .exact h'
   .rw[LI h'] at c;cases c
  have q:=K0 d;rw[q] at c;injection c with r s
  have hi:ops[k]?=some o:=by grind
  simp only[kY,acs];rw[wpOps_cons];have f:sS n o=true:=Lu.1 b o (aeu hi);refine GG hi f hs h ?_
  grind
end
def gv(P:Program)(T:eK)(n:Nat)(c:Code)(Q:Exit->Fr->dV->Prop)(fr:Fr)(H:dV):Prop:=
 ∀G0 F0 n0 w0 a w,SR T n G0 F0 n0 w0 fr H a w->c.wp P (λe b w'=>∃fr' H',Q e fr' H'/\SR T n G0 F0 n0 w0 fr' H' b w') a w
def IV(K:Fr->dV->Prop)(Q:Exit->Fr->dV->Prop):Exit->Fr->dV->Prop
 |.normal,fr,H=>K fr H|e,fr,H=>Q e fr H
def I2(id:Nat)(Q:Exit->Fr->dV->Prop):Exit->Fr->dV->Prop
 |.exit a,fr,H=>if a=id then Q .normal fr H else Q (.exit a) fr H|e,fr,H=>Q e fr H
section
variable{P:Program} {T:eK} {n:Nat} {Q Q':Exit->Fr->dV->Prop} {fr:Fr} {H:dV}
theorem gv.mono(h:gv P T n c Q fr H)(b:∀e fr H,Q e fr H->Q' e fr H):gv P T n c Q' fr H:=
 λG0 F0 n0 w0 a w hs=>wp_mono (h G0 F0 n0 w0 a w hs) λ_ _ _ ⟨fr',H',d,f⟩=>⟨fr',H',b _ _ _ d,f⟩
def gv.skip(h:Q .normal fr H):gv P T n .skip Q fr H:=λ_ _ _ _ _ _ hs=>wp_skip ⟨_,_,h,hs⟩
def gv.label{l:Nat}(h:Q .normal fr H):gv P T n (.label l) Q fr H:=λ_ _ _ _ _ _ hs=>wp_label ⟨_,_,h,hs⟩
def gv.scope(h:gv P T n c (λe fr H=>(match e with|.goto _=>False|_=>True)/\Q e fr H) fr H):gv P T n (.scope c) Q fr H:=
 λG0 F0 n0 w0 a w hs=>wp_scope_straight (wp_mono (h G0 F0 n0 w0 a w hs) λe _ _ ⟨fr',H',b,d⟩=>by
  cases e<;>first|exact b.1.elim|exact⟨fr',H',b.2,d⟩)
def gv.exit{id:Nat}(h:Q (.exit id) fr H):gv P T n (.exit id) Q fr H:=λ_ _ _ _ _ _ hs=>wp_exit ⟨_,_,h,hs⟩
def gv.ret(h:Q .ret fr H):gv P T n .ret Q fr H:=λ_ _ _ _ _ _ hs=>wp_ret ⟨_,_,h,hs⟩
def gv.seq(h:gv P T n x (IV (gv P T n y Q) Q) fr H):gv P T n (.seq x y) Q fr H:=by
 intro G0 F0 n0 w0 a w hs;refine wp_seq (wp_mono (h G0 F0 n0 w0 a w hs) ?_);rintro e d w' ⟨fr',H',b,c⟩
 cases e<;>first|exact b G0 F0 n0 w0 d w' c|exact⟨fr',H',b,c⟩
def gv.cond{c:Operand}{t:Bool}(d:ev T fr c=.sc (.bool t))(f:jw c=true)(i:t=true->gv P T n x Q fr H)(j:t=false->gv P T n y Q fr H):gv P T n (.cond c x y) Q fr H:=by
 intro G0 F0 n0 w0 a w hs;have b:=hs;obtain⟨ρ,F,R,hw,k⟩:=b;have h:=gG hw.env hw.iu c f;rw[d] at h;exact wp_cond_split (gr h) (λe=>i e G0 F0 n0 w0 a w hs) (λe=>j e G0 F0 n0 w0 a w hs)
theorem gv.block{id:Nat}(h:gv P T n c (I2 id Q) fr H):gv P T n (.block id c) Q fr H:=by
 intro G0 F0 n0 w0 a w hs;refine wp_block (wp_mono (h G0 F0 n0 w0 a w hs) ?_);rintro e i w' ⟨fr',H',b,d⟩;cases e with
 |exit f=>
  simp only[I2,Exit.inBlock] at b|-
  grind
 |_=>exact⟨fr',H',b,d⟩
theorem gv.region{id:Nat}(E:List Nat)(b:zy n ops=true)(h:iI P T E ops ops.toList (Q .normal) fr H):gv P T n (.region id ops false) Q fr H:=by
 intro G0 F0 n0 w0 a w hs;refine wp_region ?_;have:=Uq (Q:=λe c w'=>∃fr' H',Q e fr' H'/\SR T n G0 F0 n0 w0 fr' H' c w') b (λfr' H' c w' d f=>⟨fr',H',d,f⟩) ops.toList 0 fr H a w abm hs h;rw[abc]
 grind
def ALp(P:Program)(T:eK)(n:Nat)(c:Code)(Q:Exit->Fr->dV->Prop)(fr:Fr)(H:dV):Prop:=
 ∀G0 F0 n0 w0 a w,SR T n G0 F0 n0 w0 fr H a w->∀(b:Frame) (k:List Item) (cs:List Frame),∃e d w',(∃fr' H',Q e fr' H'/\SR T n G0 F0 n0 w0 fr' H' d w')/\Arrives P (lone (b.at a (.code c::.inLoop c::k)) cs w) b k cs e d w'
def gv.loop(h:ALp P T n c Q fr H):gv P T n (.loop c) Q fr H:=by
 intro G0 F0 n0 w0 a w hs b k cs;obtain⟨e,f,w',i,d⟩:=h G0 F0 n0 w0 a w hs b k cs;exact⟨e,f,w',i,.of_steps (.one step_loop) d⟩
theorem ALp.round(h:gv P T n c (IV (ALp P T n c Q) Q) fr H):ALp P T n c Q fr H:=by
 intro G0 F0 n0 w0 a w hs b k cs;obtain⟨e,j,o,⟨fr',H',i,r⟩,d⟩:=h G0 F0 n0 w0 a w hs b (.inLoop c::k) cs
 have pass:∀e,e≠ .normal->Q e fr' H'->Arrives P (lone (b.at a (.code c::.inLoop c::k)) cs w) b (.inLoop c::k) cs e j o->∃e s w',(∃fr' H',Q e fr' H'/\SR T n G0 F0 n0 w0 fr' H' s w')/\Arrives P (lone (b.at a (.code c::.inLoop c::k)) cs w) b k cs e s w':=by
  intro e he t d;exact⟨e,j,o,⟨fr',H',t,r⟩,.pass (x:=.inLoop c) rfl (λ_ _=>.inl he) d⟩
 cases e with
 |normal=>
  have u:ALp P T n c Q fr' H':=i;obtain⟨v,y,A,q,f⟩:=u G0 F0 n0 w0 j o r b k cs;exact⟨v,y,A,q,.of_steps (Steps.trans d (.one step_inLoop)) f⟩
 |exit id=>exact pass _ abm i d|goto l=>exact pass _ abm i d|ret=>exact pass _ abm i d|panic B=>exact pass _ abm i d|outgrown=>exact pass _ abm i d
end
def Se(args:List AV):Fr:={env:=λt=>args.getD t (.tuple []),box:=λ_=>none,gen:=λ_=>0,qU:=λ_=>none,fy:=λ_=>0}
def KF(P:Program)(fr:Fr)(H:dV):List ResultVar->Option (List AV)
 |[]=>some []|.tmp t::rest=>(KF P fr H rest).map ((fr.env t).norm:: ·)|.cell a t::rest=>(uy P fr H t (fr.env a)).bind λv=>(KF P fr H rest).map (v.norm:: ·)
def vP:List AV->AV
 |[x]=>x|l=>.tuple l
def wG(P:Program)(rs:List ResultVar)(Post:AV->dV->Prop):Exit->Fr->dV->Prop
 |.normal,fr,H|.ret,fr,H=>match KF P fr H rs with
  |some l=>Post (vP l) H|none=>False
 |_,_,_=>False
section
variable{P:Program} {T:eK} {n:Nat} {fr:Fr} {H:dV} {a:Act} {w:World}
def Zo(tmps:Array Value)(x:ResultVar):Sem Value:=
 match x with
 |.tmp t=>pure (tmps.getD t undef)|.cell a t=>do loadVar t (<-asAddr (tmps.getD a undef))
def E3{u v:Value}(h:(Instr.loadAt t u).run P w=.ok v w):(do loadVar t (<-asAddr u)).run P w=.ok v w:=by
 unfold Instr.loadAt at h;cases u with
 |pointer p=>
  cases p with
  |none=>simp[Instr.sureAddr,h8,stuck,Sem.run,Result.andThen] at h
  |some a=>exact h
 |_=>simp[Instr.sureAddr,h8,stuck,Sem.run,Result.andThen] at h
def aaf(h:WR T n B0 ρ F R fr H a w):∀(rs:List ResultVar) (l:List AV),KF P fr H rs=some l->∃vs:List Value,(rs.mapM (Zo a.tmps)).run P w=.ok vs w/\hO F ρ.G ρ.n l vs:=by
 intro rs
 induction rs with
 |nil=>intro l b;simp[KF] at b;subst b;exact⟨[],rfl,.nil⟩
 |cons r rs ih=>
  intro l b;cases r with
  |tmp t=>
   simp only[KF,adV] at b;obtain⟨c,d,rfl⟩:=b;obtain⟨vs,f,i⟩:=ih c d;refine⟨a.tmps.getD t undef::vs,?_,.cons (h.env t).norm i⟩;simp only[acL,h8,Zo,qb,kD,f]
  |cell j t=>
   simp only[KF,ahs,adV] at b;obtain⟨v,o,c,d,rfl⟩:=b;obtain⟨vs,f,i⟩:=ih c d;obtain⟨u,hu,q⟩:=MH h o (h.env j);refine⟨u::vs,?_,.cons q.norm i⟩;have k:=E3 hu;simp only[acL];rw[h8];have e:(Zo a.tmps (.cell j t))=(do loadVar t (<-asAddr (a.tmps.getD j undef))):=rfl;rw[e,k,kD,h8,f];rfl
def RZ(h:WR T n B0 ρ F R fr H a w){fn:Func}(c:KF P fr H fn.results.toList=some l):∃v,(results fn a.tmps).run P w=.ok v w/\gT F ρ.G ρ.n (vP l) v:=by
 obtain⟨vs,d,f⟩:=aaf (P:=P) h _ _ c
 have e:results fn a.tmps=(do
   let vs<-fn.results.mapM (Zo a.tmps)
   pure (if h:vs.size=1 then vs[0] else .tuple vs)):=rfl
 have hm:(fn.results.mapM (Zo a.tmps)).run P w=.ok vs.toArray w:=by
  rw[alc,run_map,d];rfl
 rw[e,h8,hm,kD,qb];refine⟨_,rfl,?_⟩;cases f with
 |nil=>exact .tuple (vs:=[]) .nil|cons b i=>
  cases i with
  |nil=>exact b|cons j k=>
   have:=gT.tuple (.cons b (.cons j k));simpa[vP] using this
open Classical in
def fv.intro{fn:Func}(N:P.funcs[f]?=some fn)(O:fn.body=some c)(q:kK P f=true)(hlen:args.length<=fn.ntmps)
  (h:gv P T fn.ntmps c (wG P fn.results.toList Post) (Se args) H):fv P T f args H Post:=by
 refine⟨q,λG F w vs hg J=>?_⟩;refine calls_of_wp N O ?_;have s:args.length=vs.length:=J.length
 let ρ:Maps:={G:=G,n:=H.length,L:=λ_ _=>0,lg:=λ_=>0,A:=λ_ _=>none,ag:=λ_=>0}
 let R:Nat->oY:=λb=>if∃o,o<H.length/\G o=b then .ma else .free
 have hw:WR T fn.ntmps w.heap.size ρ F R (Se args) H {tmps:=vs.toArray++Array.replicate (fn.ntmps-vs.toArray.size) undef,defers:=[]} w:=by
  refine⟨hg,?_,rfl,?_,rfl,λ_=>rfl,λ_=>rfl,?_,?_,?_,?_,?_,gY _⟩
  .simp only[Array.size_append,ah5,Array.size_replicate];omega
  .intro t;show gI F ρ (args.getD t (.tuple [])) _;rcases uC t args.length with ht|ht
   .obtain⟨v,x,y⟩:=J.get (pE ht)
    have B:args.getD t (.tuple [])=args[t]:=by simp[ht]
    have C:(vs.toArray++Array.replicate (fn.ntmps-vs.toArray.size) undef).getD t undef=v:=by
     rw[P0,Array.getElem?_append_left (by simpa[<-s] using ht)];simp[x]
    rw[B,C];exact .p y
   .have B:args.getD t (.tuple [])=.tuple []:=by simp[aie ht]
    have C:(vs.toArray++Array.replicate (fn.ntmps-vs.toArray.size) undef).getD t undef=undef:=by
     rw[P0,Array.getElem?_append_right (by simpa[<-s] using ht),Array.getElem?_replicate]
     split<;>rfl
    rw[B,C];exact Gn
  .intro d cs Q;cases Q
  .intro k m S;cases S
  .intro b j v x d;show(if∃o,o<H.length/\G o=b then oY.ma else .free)≠ .box d
   split<;>simp
  .intro o D;show(if∃o',o'<H.length/\G o'=G o then oY.ma else .free)=.ma;rw[dO ⟨o,D,rfl⟩]
  .intro b U;show(if∃o,o<H.length/\G o=b then oY.ma else .free)=.free;rw[dK];rintro⟨o,D,rfl⟩;obtain⟨X,V,_⟩:=hg.ma o _ (pE D);have:=qH V;omega
 refine wp_mono (h G F H.length w _ w ⟨ρ,F,R,hw,Ext.refl⟩) ?_;rintro e K w' ⟨fr',H',a,ρ',F',Y,i,I⟩
 have key:∀{l:List AV},KF P fr' H' fn.results.toList=some l->Post (vP l) H'->K.defers=[]/\∃v,(results fn K.tmps).run P w'=.ok v w'/\∃r H' M G' F',Post r H'/\Ending.returned v=.returned M/\GW T G' F' H' w'/\gT F' G' H'.length r M/\Ext w.heap.size G F H.length w G' F' H'.length w':=by
  intro l u W;obtain⟨v,x,y⟩:=RZ i u;rw[i.hn] at y;exact⟨i.defers,v,x,_,_,v,_,_,W,rfl,i.g,y,I⟩
 cases e with
 |normal=>
  simp only[wG] at a
  split at a
  .rename_i l u;exact key u a
  .exact a.elim
 |ret=>
  simp only[wG] at a
  split at a
  .rename_i l u;exact key u a
  .exact a.elim
 |_=>exact a.elim
end
end Go.lD
