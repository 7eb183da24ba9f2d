/- Part of the proof of SchemeLists: layer. -/
import Derived.Laws.IdiomStrings
import Derived.Scope
import Derived.Test.YtpgdkkomegalnaaGreatDoorLL5
set_option linter.all false
namespace Go.kY
open Go
def kN(P:Program)(f:FuncId):Bool:=
 match P.funcs[f]?with
 |some fn=>fn.body.isSome&&fn.name != "runtime.NumGoroutine"
 |none=>false
def fC(P:Program)(T:eN)(f:FuncId)(args:List AV)(H:dY)(Post:AV->dY->Prop):Prop:=
 kN P f=true/\∀(G:Nat->Nat) (F:kM) (w:World) (vs:List Value),GW T G F H w->hO F G H.length args vs->Calls P f vs.toArray w λe w'=>∃r H' v G' F',Post r H'/\e=.returned v/\GW T G' F' H' w'/\gQ F' G' H'.length r v/\Ext w.heap.size G F H.length w G' F' H'.length w'
def eO(P:Program)(T:eN)(f:FuncId)(args:List AV)(H:dY)(r:AV)(H':dY):Prop:=fC P T f args H λb a=>b=r/\a=H'
theorem fC.mono{P:Program}{T:eN}{f:FuncId}{args:List AV}{H:dY}{Post Post':AV->dY->Prop}(h:fC P T f args H Post)(a:∀r H',Post r H'->Post' r H'):fC P T f args H Post':=
 ⟨h.1,λG F w vs hg b=>(h.2 G F w vs hg b).mono λ_ _ ⟨r,H',v,G',F',c,d⟩=>⟨r,H',v,G',F',a _ _ c,d⟩⟩
def eO.post{P:Program}{T:eN}{f:FuncId}{args:List AV}{H H':dY}{r:AV}{Post:AV->dY->Prop}(h:eO P T f args H r H')(a:Post r H'):fC P T f args H Post:=
 fC.mono h λi b ⟨c,d⟩=>by subst c;subst d;exact a
def oZ(P:Program)(T:eN)(a:AV)(args:List AV)(H:dY)(Post:AV->dY->Prop):Prop:=
 match a with
 |.func (.func g) first cap=>fC P T g (first++args++cap) H Post
 |_=>False
section
variable{P:Program} {T:eN} {n:Nat} {G0:Nat->Nat} {F0:kM} {n0:Nat} {w0:World} {fr:Fr} {H:dY} {a:Act} {w:World}
open Classical in
def WR.called{ρ:Maps}{F:kM}{R:Nat->ou}{B0:Nat}(h:WR T n B0 ρ F R fr H a w){G':Nat->Nat}{F':kM}{H':dY}{w':World}(hg:GW T G' F' H' w')
  (l:Ext w.heap.size ρ.G F H.length w G' F' H'.length w'):∃ρ' u,ρ'.G=G'/\ρ'.n=H'.length/\WR T n B0 ρ' F' u fr H' a w':=by
 let ρ':Maps:={ρ with G:=G',n:=H'.length}
 let u:Nat->ou:=λb=>if∃o,H.length<=o/\o<H'.length/\G' o=b then .lK else R b
 have A:Hh F F' ρ.G G' ρ.n H'.length:=by
  refine⟨λb o v K=>?_,by rw[h.hn];exact l.len,λo s=>l.hG o (by rw[<-h.hn];exact s)⟩;exact l.mF b o v (h.ahw K) K
 have x:xu F F' ρ ρ':=⟨A,λ_=>gY _,λ_ _ _=>rfl,λ_=>gY _,λ_ _ _=>rfl⟩
 have f:∀b,b<w.heap.size->u b=R b:=by
  intro b hb;show(if∃o,H.length<=o/\o<H'.length/\G' o=b then ou.lK else R b)=R b;rw[dK];rintro⟨o,h1,r,rfl⟩;have:=l.LV o h1 r;omega
 have q:∀b,R b≠ .lK->∀o,o<H.length->ρ.G o≠b:=by
  rintro b hb o s rfl;exact hb (h.n_ o s)
 refine⟨ρ',u,rfl,rfl,⟨hg,h.size,h.defers,h.env.grow x,rfl,h.lg,h.ag,?_,?_,?_,?_,?_,AL h.qq l.size⟩⟩
 ·intro d cs M;obtain⟨h1,r,B,vs,ty,t,C⟩:=h.box d cs M;have i:=p1 t;exact⟨h1,by rw[f _ i];exact r,B,vs,ty,(l.heap _ i (q _ (by rw[r];simp))).trans t,C.mono λ_ _ _ h=>h.grow x⟩
 ·intro k m N b c sz O;obtain⟨h1,r,B,D,⟨vs,ty,t,C⟩,P⟩:=h.tok k m N b c sz O;have i:=p1 t;refine⟨h1,by rw[f _ i];exact r,B,D,⟨vs,ty,(l.heap _ i (q _ (by rw[r];simp))).trans t,C⟩,λj Q=>?_⟩;rw[l.hF b j i (q _ (by rw[r];simp))];exact P j Q
 ·intro b j v L;rcases vh b w.heap.size with hb|hb
  ·rw[f b hb]
   by_cases y:∃o,o<H.length/\ρ.G o=b
   ·obtain⟨o,s,rfl⟩:=y;rw[h.n_ o s];simp
   ·rw[l.hF b j hb λo s e=>y ⟨o,s,e⟩] at L;exact h.qi b j v L
  ·intro d;show(if∃o,H.length<=o/\o<H'.length/\G' o=b then ou.lK else R b)≠ .box d
   split
   ·simp
   ·rw[h.lz b hb];simp
 ·intro o s;rcases vh o H.length with h1|h1
  ·have I:=h.n_ o h1
   have i:ρ.G o<w.heap.size:=by
    rcases vh (ρ.G o) w.heap.size with h'|h'
    ·exact h'
    ·rw[h.lz _ h'] at I;cases I
   show u (G' o)=.lK;rw[l.hG o h1,f _ i];exact I
  ·show(if∃o',H.length<=o'/\o'<H'.length/\G' o'=G' o then ou.lK else R (G' o))=.lK;rw[dR ⟨o,h1,s,rfl⟩]
 ·intro b hb;show(if∃o,H.length<=o/\o<H'.length/\G' o=b then ou.lK else R b)=.free;rw[dK]
  ·exact h.lz b (AL l.size hb)
  ·rintro⟨o,h1,r,rfl⟩;have J:H'[o]?=some H'[o]:=o9 r;obtain⟨S,t,_⟩:=hg.lK o _ J;have:=p1 t;omega
end
def IY(E:List Nat)(dst:Option Nat)(v:AV)(K:Fr->dY->Prop)(fr:Fr)(H:dY):Prop:=
 if dst.any E.contains then(match v with|.slice _ l=>K (fr.put dst (.zF H.length 0 l.length l.length)) (H++[l.flatMap AV.cells])|_=>False)else K (fr.put dst v) H
def XY(P:Program)(dst:Option Nat)(s d:TypeId)(x:AV)(K:Fr->dY->Prop)(fr:Fr)(H:dY):Prop:=
 match U8 P s d x with
 |some v=>K (fr.put dst v) H|none=>match P.underlying s,P.underlying d,x with
  |some .string,some (.slice e),.sc (.string y)=>P.underlying e=some (.int .u8)/\y.size<=kc/\∀cap k,y.size<=cap->K (fr.put dst (.zF H.length 0 y.size cap)) (H++[qg y++zq k])|_,_,_=>False
def qR(P:Program)(T:eN)(E:List Nat)(o:Oper)(K:Fr->dY->Prop)(fr:Fr)(H:dY):Prop:=
 match o.op with
 |.alloc t=>match j6 P t with
  |some z=>kW E o.dst z K fr H|none=>False
 |.box _ x=>fw (ev T fr x)=true/\kW E o.dst (ev T fr x).cells K fr H|.load t x=>match vq P fr H t (ev T fr x)with
  |some v=>K (fr.put o.dst v) H|none=>False
 |.store t x y=>o.dst=none/\lP P t (ev T fr x) (ev T fr y) K fr H|.buildSlice t n a=>match m4 P t n (a.toList.map λp=>(p.1,ev T fr p.2))with
  |some v=>IY E o.dst v K fr H|none=>False
 |.makeSlice t l c=>match zf P t (ev T fr l) (ev T fr c)with
  |some v=>K (fr.put o.dst v) H|none=>False
 |.convert s d x=>XY P o.dst s d (ev T fr x) K fr H|.call c=>match c.callee with
  |.builtin .append=>(m_ P T c o.dst K fr H\/ES P T c o.dst K fr H)\/EI P T c o.dst K fr H\/o0 P T c o.dst K fr H|.builtin _=>match ym P T fr c with
   |some v=>K (fr.put o.dst v) H|none=>False
  |.value f=>oZ P T (ev T fr f) (c.args.toList.map λx=>(ev T fr x).norm) H λr H'=>K (fr.put o.dst r) H'|.invoke _ _=>False
 |.makeMap _ none=>Ib o.dst K fr H|.mapUpdate t m k x=>o.dst=none/\sh P t (ev T fr m) (ev T fr k) (ev T fr x) K fr H|.insert t m k x=>o.dst=none/\sh P t (ev T fr m) (ev T fr k) (ev T fr x) K fr H|.lookup t x i ok=>match vD P H t (ev T fr x) (ev T fr i) ok with
  |some v=>K (fr.put o.dst v) H|none=>False
 |.range t x=>IF P t (ev T fr x) o.dst K fr H|.next it false=>LJ (ev T fr it) o.dst K fr H|.entry it=>match FK (ev T fr it) H with
  |some v=>K (fr.put o.dst v) H|none=>False
 |_=>match Ab P T fr o with
  |some v=>K (fr.put o.dst v) H|none=>False
def sa(n:Nat)(o:Oper):Bool:=o.dst.all (λd=>decide (d<n))&&o.op.operands.all jg
def yH{n:Nat}{o:Oper}(h:sa n o=true):∀d,o.dst=some d->d<n:=by grind[sa]
def Ob{n:Nat}{o:Oper}(h:sa n o=true):o.op.operands.all jg=true:=by grind[sa]
section
variable{P:Program} {T:eN} {n:Nat} {G0:Nat->Nat} {F0:kM} {n0:Nat} {w0:World} {fr:Fr} {H:dY} {a:Act} {w:World}
def M1(w:World){f:FuncId}(h:kN P f=true)(args:Array Value):(callFunc f args).run P w=.ok (.enter f args) w:=by
 unfold kN at h
 split at h
 ·rename_i fn a;simp only[hD] at h;simp[callFunc,a,h.2]
  grind
 ·cases h
def J_{ρ:Maps}{F:kM}{R:Nat->ou}(h:WR T n w0.heap.size ρ F R fr H a w)(r:Ext w0.heap.size G0 F0 n0 w0 ρ.G F H.length w)(s d:TypeId){e:TypeId}(y:ByteArray)(hs:P.underlying s=some .string)(t:P.underlying d=some (.slice e))
  (he:P.underlying e=some (.int .u8)) (f:y.size<=kc) {dst:Option Nat} (i:∀d,dst=some d->d<n):∃w',(convert s d (.string y)).run P w=.ok (.slice (some ⟨w.heap.size,0,none⟩) y.size (grownCap w y.size 0 e)) w'/\SR T n G0 F0 n0 w0 (fr.put dst (.zF H.length 0 y.size (grownCap w y.size 0 e))) (H++[qg y++zq (grownCap w y.size 0 e-y.size)]) (a.put dst (.slice (some ⟨w.heap.size,0,none⟩) y.size (grownCap w y.size 0 e))) w':=by
 have j:=grownCap_ge w y.size 0 e;have hle:=grownCap_le_maxLen w y.size 0 e (by have:y.size<=549755813888:=f;simp only[maxLen];omega);refine⟨_,run_bytes_of_string w s d e y hs t he,sx h.drew r.drew (.cells (.inr (gY _)) ?_ ?_) i ?_⟩
 ·have u:(bytesRow y (grownCap w y.size 0 e)).toList=Lib.strCells y++List.replicate (grownCap w y.size 0 e-y.size) (.int .u8 0):=by
   simp[bytesRow,Lib.strCells]
  rw[u];refine .append ?_ ?_
  ·have x:=(wy (F:=F) (G:=ρ.G) (k:=ρ.n) (Lib.strCells y) (λv A=>by obtain⟨b,_,rfl⟩:=qp.1 A;rfl)).qw
   have B:(Lib.strCells y).map AV.sc=qg y:=by simp[Lib.strCells,qg]
   rwa [B] at x
  ·generalize grownCap w y.size 0 e-y.size=k
   induction k with
   |zero=>exact .nil|succ k ih=>
    show hQ _ (List.replicate (k+1) AV.undef) (List.replicate (k+1) _);exact .cons (.undef rfl) ih
 ·intro c hc;rcases sU.1 hc with hc|hc
  ·obtain⟨b,_,rfl⟩:=qp.1 hc;rfl
  ·exact yB _ c hc
 ·intro ρ' hG l q;have:=gQ.zF (F:=F) (G:=ρ'.G) (n:=ρ'.n) (o:=H.length) (off:=0) (len:=y.size) (cap:=grownCap w y.size 0 e) (by rw[q];omega) j hle;rw[l] at this;exact this
def Gz{E:List Nat}{o:Oper}{K:Fr->dY->Prop}{Q:Exit->Act->World->Prop}(U:sa n o=true)(hs:SR T n G0 F0 n0 w0 fr H a w)(h:qR P T E o K fr H):o.wp P a w (λZ w'=>∃fr' H',K fr' H'/\SR T n G0 F0 n0 w0 fr' H' Z w') Q:=by
 obtain⟨ρ,F,R,hw,A⟩:=hs;have D:=yH U;have N:=Ob U
 have M:∀{v:AV},(∃u,(execOp a.eval o).run P w=.ok (.value u) w/\gG F ρ v u)->K (fr.put o.dst v) H->o.wp P a w (λZ w'=>∃fr' H',K fr' H'/\SR T n G0 F0 n0 w0 fr' H' Z w') Q:=by
  rintro v ⟨u,O,hu⟩ J;unfold Oper.wp;rw[O];exact⟨_,_,J,ρ,F,R,hw.put D hu,A⟩
 have q:∀{s:Sem Value} {u:Value} {w':World},execOp a.eval o=(do pure (.value (<-s)))->s.run P w=.ok u w'->(∃fr' H',K fr' H'/\SR T n G0 F0 n0 w0 fr' H' (a.put o.dst u) w')->o.wp P a w (λZ w'=>∃fr' H',K fr' H'/\SR T n G0 F0 n0 w0 fr' H' Z w') Q:=by
  intro s u w' he O J;unfold Oper.wp;rw[he,h7,O];exact J
 obtain⟨dst,op,type,pos,after,guard⟩:=o;simp only at N D;have j:∀x∈op.operands,jg x=true:=λx A=>KE.1 N x A;unfold qR at h;simp only at h
 split at h
 ·--alloc
  rename_i t
  split at h
  ·rename_i cells an;obtain⟨z,hz,ao,aq,rfl⟩:=Lh an;have ar:=h
   have aw:∀vs,z≠ .tuple vs:=by rintro vs rfl;simp[ofValue,fw] at aq
   obtain⟨ad,ax⟩:=Cn ao aw;refine q (s:=Instr.alloc t true (.tuple #[])) rfl (QF w hz) ?_;refine Gw hw A ar D t ?_ ?_
   ·rw[ad];exact(qK F ρ.G ρ.n _ ax).qw.mono λ_ _ _ h=>.p h
   ·rw[ad];intro c W;obtain⟨u,_,rfl⟩:=qp.1 W;exact yY u
  ·exact h.elim
 ·--box
  rename_i t x;obtain⟨h1,h2⟩:=h;have I:=gD hw.env hw.iq x (j x (by simp[Op.operands]));exact q (s:=Instr.box t (a.eval x)) rfl rfl (Gw hw A h2 D t (I.cells (iI h1)) (I.sy (iI h1)))
 ·--load
  rename_i t x
  split at h
  ·rename_i v C;have I:=gD hw.env hw.iq x (j x (by simp[Op.operands]));obtain⟨u,hu,O⟩:=Lr hw C I;exact q (s:=Instr.loadAt t (a.eval x)) rfl hu ⟨_,_,h,ρ,F,R,hw.put D O,A⟩
  ·exact h.elim
 ·--store
  rename_i t x y;obtain⟨L,h⟩:=h;subst L;have I:=gD hw.env hw.iq x (j x (by simp[Op.operands]));have ay:=gD hw.env hw.iq y (j y (by simp[Op.operands]));obtain⟨fr',H',w',b,J,hs⟩:=NO hw A h I ay;unfold Oper.wp;have e:execOp a.eval {dst:=none,op:=.store t x y,type:=type,pos:=pos,after:=after,guard:=guard}=(do Instr.storeAt t (a.eval x) (a.eval y);pure .skip):=rfl;rw[e,h7,b];exact⟨fr',H',J,hs⟩
 ·--buildSlice
  rename_i t k ps
  split at h
  ·rename_i v C;have hp:=JN hw.env hw.iq ps.toList λp hp=>j p.2 (by simp[Op.operands];exact⟨p.1,by simpa using hp⟩)
   have e:(ps.toList.map λp=>(p.1,a.eval p.2)).toArray=ps.map λp=>(p.1,a.eval p.2):=by rw[<-Pp,Ua]
   unfold IY at h
   split at h
   ·split at h
    ·obtain⟨u,w',b,hs⟩:=ED hw A C hp D;rw[e] at b;unfold Oper.wp;simp only[execOp,h7,b,j8];exact⟨_,_,h,hs⟩
    ·exact h.elim
   ·obtain⟨u,w',b,hs⟩:=Ge hw A C hp D;rw[e] at b;unfold Oper.wp;simp only[execOp,h7,b,j8];exact⟨_,_,h,hs⟩
  ·exact h.elim
 ·--makeSlice
  rename_i t l c
  split at h
  ·rename_i v C;obtain⟨u,w',b,hs⟩:=Hs hw A C (gD hw.env hw.iq l (j l (by simp[Op.operands]))) (gD hw.env hw.iq c (j c (by simp[Op.operands]))) D;exact q (s:=Instr.makeSlice t (a.eval l) (a.eval c)) rfl b ⟨_,_,h,hs⟩
  ·exact h.elim
 ·--convert
  rename_i t d x;have I:=gD hw.env hw.iq x (j x (by simp[Op.operands]));unfold XY at h
  split at h
  ·rename_i v C;refine M (v:=v) (Dr w hw.g.GK hw.env hw.iq N ?_) h;simp only[Ab];exact C
  ·split at h
   ·rename_i e y hs az aA;obtain⟨he,ae,h⟩:=h;rw[aA] at I;have C:=gi I;obtain⟨w',b,aB⟩:=J_ hw A t d y hs az he ae D;refine q (s:=convert t d (a.eval x)) rfl (by rw[C];exact b) ⟨_,_,h _ _ (by simpa using grownCap_ge w y.size 0 e),aB⟩
   ·exact h.elim
 ·--call
  rename_i c;obtain⟨callee,args,argTypes⟩:=c;have B:∀x∈args.toList,jg x=true:=λx A=>j x (by simp[Op.operands,Call.operands,ye.1 A])
  split at h
  ·--append
   rename_i W;simp only at W;subst W;obtain⟨u,w',fr',H',b,J,hs⟩:=h.elim (λh=>h.elim (λh=>MG (ty:=type) hw A h D B) (λh=>Ki (ty:=type) hw A h D B)) (λh=>h.elim (λh=>Kj (ty:=type) hw A h D B) (λh=>J9 (ty:=type) hw A h D B));unfold Oper.wp execOp;simp only[resolve,invoke,builtin,h7,pP,j8];rw[b];exact⟨fr',H',J,hs⟩
  ·--af builtin
   split at h
   ·rename_i v C;refine M (v:=v) (Dr w hw.g.GK hw.env hw.iq N ?_) h;simp only[Ab];exact C
   ·exact h.elim
  ·--a V value
   rename_i f W;simp only at W;subst W;unfold oZ at h;have ah:=gD hw.env hw.iq f (j f (by simp[Op.operands,Call.operands]))
   split at h
   ·rename_i g first cap hf
    rw[hf] at ah;obtain⟨vf,vc,C,aC,aD⟩:=BC ah;obtain⟨ai,X⟩:=h;have S:=Ix hw.env hw.iq args.toList B
    have Y:hO F ρ.G H.length (first++(args.toList.map λx=>(ev T fr x).norm)++cap) (vf++args.toList.map a.eval++vc):=by
     rw[<-hw.hn];exact((hO.oU aC).append S).append (.oU aD)
    have hC:=X ρ.G F w _ hw.g Y;unfold Oper.wp
    have e:(execOp a.eval {dst:=dst,op:=.call {callee:=.value f,args:=args,argTypes:=argTypes},type:=type,pos:=pos,after:=after,guard:=guard}).run P w=.ok (.enter g (vf++args.toList.map a.eval++vc).toArray) w:=by
     simp only[execOp,resolve,h7];rw[C];simp only[Deferred.ofValue,pP,j8,invoke];rw[M1 w ai]
     congr 2
     apply F7.1;simp
    rw[e];show Calls P g _ w _;refine hC.mono ?_;rintro e' w' ⟨r,H',v,G',F',J,rfl,aE,aF,ak⟩;obtain⟨ρ',R',hG,aG,aH⟩:=hw.called aE ak;refine⟨_,_,J,ρ',F',R',aH.put D (.p ?_),?_⟩
    ·rw[hG,aG];exact aF
    ·rw[hG];exact A.trans (ak.mono hw.qq)
   ·exact h.elim
  ·exact h.elim
 ·--makeMap
  obtain⟨v,w',b,hs⟩:=J1 (P:=P) hw A D;exact q (s:=Instr.makeMap _ none) rfl b ⟨_,_,h,hs⟩
 ·--mapUpdate
  rename_i t m k x;obtain⟨L,h⟩:=h;subst L;obtain⟨fr',H',w',b,J,hs⟩:=Ek hw A h (gD hw.env hw.iq m (j m (by simp[Op.operands]))) (gD hw.env hw.iq k (j k (by simp[Op.operands]))) (gD hw.env hw.iq x (j x (by simp[Op.operands])));unfold Oper.wp;have e:execOp a.eval {dst:=none,op:=.mapUpdate t m k x,type:=type,pos:=pos,after:=after,guard:=guard}=(do Instr.mapUpdate t (a.eval m) (a.eval k) (a.eval x);pure .skip):=rfl;rw[e,h7,b];exact⟨fr',H',J,hs⟩
 ·--insert
  rename_i t m k x;obtain⟨L,h⟩:=h;subst L;obtain⟨fr',H',w',b,J,hs⟩:=Ek hw A h (gD hw.env hw.iq m (j m (by simp[Op.operands]))) (gD hw.env hw.iq k (j k (by simp[Op.operands]))) (gD hw.env hw.iq x (j x (by simp[Op.operands])));unfold Oper.wp;have e:execOp a.eval {dst:=none,op:=.insert t m k x,type:=type,pos:=pos,after:=after,guard:=guard}=(do Instr.mapUpdate t (a.eval m) (a.eval k) (a.eval x);pure .skip):=rfl;rw[e,h7,b];exact⟨fr',H',J,hs⟩
 ·--lookup
  rename_i t x i ok
  split at h
  ·rename_i v C;obtain⟨u,hu,O⟩:=Nh hw C (gD hw.env hw.iq x (j x (by simp[Op.operands]))) (gD hw.env hw.iq i (j i (by simp[Op.operands])));exact q (s:=Instr.lookup t (a.eval x) (a.eval i) ok) rfl hu ⟨_,_,h,ρ,F,R,hw.put D O,A⟩
  ·exact h.elim
 ·--range
  rename_i t x;obtain⟨v,w',fr',H',b,J,hs⟩:=Ok hw A h D (gD hw.env hw.iq x (j x (by simp[Op.operands])));exact q (s:=Instr.range t (a.eval x)) rfl b ⟨_,_,J,hs⟩
 ·--next
  rename_i it;obtain⟨v,w',fr',H',b,J,hs⟩:=Rm hw A type h D (gD hw.env hw.iq it (j it (by simp[Op.operands])));exact q (s:=Instr.next (a.eval it) false type) rfl b ⟨_,_,J,hs⟩
 ·--entry
  rename_i it
  split at h
  ·rename_i v C;obtain⟨u,hu,O⟩:=Ry (P:=P) hw C (gD hw.env hw.iq it (j it (by simp[Op.operands])));exact q (s:=Instr.entry (a.eval it)) rfl hu ⟨_,_,h,ρ,F,R,hw.put D O,A⟩
  ·exact h.elim
 ·--all others only compute
  split at h
  ·rename_i v C;exact M (v:=v) (Dr w hw.g.GK hw.env hw.iq N C) h
  ·exact h.elim
end
end Go.kY
namespace Go.kY
open Go
def E'(P:Program)(T:eN)(E:List Nat)(ops:Array Oper)(o:Oper)(K:Fr->dY->Prop)(fr:Fr)(H:dY):Prop:=
 match o.guard with
 |none=>qR P T E o K fr H|some (j,want)=>
  match(ops[j]?).bind (·.dst)with
  |some d=>
   match fr.env d with
   |.sc (.bool b)=>if b=want then qR P T E o K fr H else K (fr.put o.dst (.tuple [])) H|.tuple _=>K (fr.put o.dst (.tuple [])) H|_=>False
  |none=>False
def iK(P:Program)(T:eN)(E:List Nat)(ops:Array Oper):List Oper->(Fr->dY->Prop)->Fr->dY->Prop
 |[],K,fr,H=>K fr H|o::rest,K,fr,H=>E' P T E ops o (λfr H=>iK P T E ops rest K fr H) fr H
def A4(n:Nat)(ops:Array Oper):Bool:=ops.all (sa n)
section
variable{P:Program} {T:eN} {n:Nat} {G0:Nat->Nat} {F0:kM} {n0:Nat} {w0:World} {fr:Fr} {H:dY} {a:Act} {w:World}
def GA{F:kM}{ρ:Maps}:gG F ρ (.tuple []) undef:=.p (.tuple (vs:=[]) .nil)
theorem SR.put(hs:SR T n G0 F0 n0 w0 fr H a w){d:Option Nat}(c:∀b,d=some b->b<n):SR T n G0 F0 n0 w0 (fr.put d (.tuple [])) H (a.put d undef) w:=by
 obtain⟨ρ,F,R,hw,f⟩:=hs;exact⟨ρ,F,R,hw.put c GA,f⟩
def PW(hs:SR T n G0 F0 n0 w0 fr H a w){ops:Array Oper}{j d:Nat}{b:Bool}(i:(ops[j]?).bind (·.dst)=some d)(he:fr.env d=.sc (.bool b)):yielded ops a.tmps j=some b:=by
 obtain⟨ρ,F,R,hw,k⟩:=hs;have h:=hw.env d;rw[he] at h;have c:=gi h;unfold yielded;cases f:a.tmps[d]?with
 |none=>rw[Np,f] at c;cases c
 |some v=>simp_all
def J7(hs:SR T n G0 F0 n0 w0 fr H a w){ops:Array Oper}{j d:Nat}{l:List AV}(b:(ops[j]?).bind (·.dst)=some d)(he:fr.env d=.tuple l):yielded ops a.tmps j=none:=by
 obtain⟨ρ,F,R,hw,f⟩:=hs;have h:=hw.env d;rw[he] at h;unfold yielded;rw[b];simp only[Em];cases c:a.tmps[d]?with
 |none=>rfl|some v=>
  rw[Np,c] at h;cases h with
  |cell h=>cases h with|p h=>cases h;rfl
def Gp{E:List Nat}{ops:Array Oper}{i:Nat}{o:Oper}{K:Fr->dY->Prop}{Q:Exit->Act->World->Prop}(hi:ops[i]?=some o)(c:sa n o=true)(hs:SR T n G0 F0 n0 w0 fr H a w)
  (h:E' P T E ops o K fr H) {N:Act->World->Prop} (q:∀fr' H' k w',K fr' H'->SR T n G0 F0 n0 w0 fr' H' k w'->N k w'):wpOp P ops Q i N a w:=by
 unfold wpOp;simp only[hi];unfold E' at h
 split at h
 ·rename_i hg;rw[dR (by simp[Region.wanted,hg])];exact .inl (Oper.wp_mono (λk w' ⟨fr',H',s,f⟩=>q fr' H' k w' s f) (Gz c hs h))
 ·rename_i j want hg
  split at h
  ·rename_i d u
   split at h
   ·rename_i b he;have r:=PW hs u he
    split at h
    ·rename_i t;rw[dR (by simp[Region.wanted,hg,r,t])];exact .inl (Oper.wp_mono (λk w' ⟨fr',H',s,f⟩=>q fr' H' k w' s f) (Gz c hs h))
    ·rename_i t;rw[dK (by simp[Region.wanted,hg,r,t])];exact q _ _ _ _ h (hs.put (yH c))
   ·rename_i l he;have r:=J7 hs u he;rw[dK (by simp[Region.wanted,hg,r])];exact q _ _ _ _ h (hs.put (yH c))
   ·exact h.elim
  ·exact h.elim
def Qh{E:List Nat}{ops:Array Oper}{K:Fr->dY->Prop}{Q:Exit->Act->World->Prop}(b:A4 n ops=true)
  (j:∀fr' H' i w',K fr' H'->SR T n G0 F0 n0 w0 fr' H' i w'->Q .normal i w'):∀(l:List Oper) (k:Nat) (fr:Fr) (H:dY) (a:Act) (w:World),l=ops.toList.drop k->SR T n G0 F0 n0 w0 fr H a w->iK P T E ops l K fr H->wpOps P ops Q (List.range' k l.length) a w:=by
 intro l
 induction l with
 |nil=>
  intro k fr H a w c hs h;simp only[B4,List.range'_zero,wpOps];exact j _ _ _ _ h hs
 |cons o l ih=>
  intro k fr H a w c hs h
  have d:k<ops.toList.length:=by
   rcases vh k ops.toList.length with h'|h'
   ·exact h'
   ·rw[Oj h'] at c;cases c
  have q:=Kd d;rw[q] at c;injection c with r s
  have hi:ops[k]?=some o:=by grind
  simp only[mz,adW];rw[wpOps_cons];have f:sa n o=true:=KE.1 b o (ZS hi);refine Gp hi f hs h ?_
  grind
end
def hZ(P:Program)(T:eN)(n:Nat)(c:Code)(Q:Exit->Fr->dY->Prop)(fr:Fr)(H:dY):Prop:=
 ∀G0 F0 n0 w0 a w,SR T n G0 F0 n0 w0 fr H a w->c.wp P (λe b w'=>∃fr' H',Q e fr' H'/\SR T n G0 F0 n0 w0 fr' H' b w') a w
def IS(K:Fr->dY->Prop)(Q:Exit->Fr->dY->Prop):Exit->Fr->dY->Prop
 |.normal,fr,H=>K fr H|e,fr,H=>Q e fr H
def I6(id:Nat)(Q:Exit->Fr->dY->Prop):Exit->Fr->dY->Prop
 |.exit a,fr,H=>if a=id then Q .normal fr H else Q (.exit a) fr H|e,fr,H=>Q e fr H
section
variable{P:Program} {T:eN} {n:Nat} {Q Q':Exit->Fr->dY->Prop} {fr:Fr} {H:dY}
theorem hZ.mono{c:Code}(h:hZ P T n c Q fr H)(b:∀e fr H,Q e fr H->Q' e fr H):hZ P T n c Q' fr H:=
 λG0 F0 n0 w0 a w hs=>wp_mono (h G0 F0 n0 w0 a w hs) λ_ _ _ ⟨fr',H',d,f⟩=>⟨fr',H',b _ _ _ d,f⟩
def hZ.skip(h:Q .normal fr H):hZ P T n .skip Q fr H:=λ_ _ _ _ _ _ hs=>wp_skip ⟨_,_,h,hs⟩
def hZ.label{l:Nat}(h:Q .normal fr H):hZ P T n (.label l) Q fr H:=λ_ _ _ _ _ _ hs=>wp_label ⟨_,_,h,hs⟩
def hZ.scope{c:Code}(h:hZ P T n c (λe fr H=>(match e with|.goto _=>False|_=>True)/\Q e fr H) fr H):hZ P T n (.scope c) Q fr H:=
 λG0 F0 n0 w0 a w hs=>wp_scope_straight (wp_mono (h G0 F0 n0 w0 a w hs) λe _ _ ⟨fr',H',b,d⟩=>by
  cases e<;>first|exact b.1.elim|exact⟨fr',H',b.2,d⟩)
def hZ.exit{id:Nat}(h:Q (.exit id) fr H):hZ P T n (.exit id) Q fr H:=λ_ _ _ _ _ _ hs=>wp_exit ⟨_,_,h,hs⟩
def hZ.ret(h:Q .ret fr H):hZ P T n .ret Q fr H:=λ_ _ _ _ _ _ hs=>wp_ret ⟨_,_,h,hs⟩
def hZ.seq{x y:Code}(h:hZ P T n x (IS (hZ P T n y Q) Q) fr H):hZ P T n (.seq x y) Q fr H:=by
 intro G0 F0 n0 w0 a w hs;refine wp_seq (wp_mono (h G0 F0 n0 w0 a w hs) ?_);rintro e d w' ⟨fr',H',b,c⟩
 cases e<;>first|exact b G0 F0 n0 w0 d w' c|exact⟨fr',H',b,c⟩
def hZ.cond{c:Operand}{x y:Code}{t:Bool}(d:ev T fr c=.sc (.bool t))(f:jg c=true)(i:t=true->hZ P T n x Q fr H)(j:t=false->hZ P T n y Q fr H):hZ P T n (.cond c x y) Q fr H:=by
 intro G0 F0 n0 w0 a w hs;have b:=hs;obtain⟨ρ,F,R,hw,k⟩:=b;have h:=gD hw.env hw.iq c f;rw[d] at h;exact wp_cond_split (gi h) (λe=>i e G0 F0 n0 w0 a w hs) (λe=>j e G0 F0 n0 w0 a w hs)
def hZ.block{id:Nat}{c:Code}(h:hZ P T n c (I6 id Q) fr H):hZ P T n (.block id c) Q fr H:=by
 intro G0 F0 n0 w0 a w hs;refine wp_block (wp_mono (h G0 F0 n0 w0 a w hs) ?_);rintro e i w' ⟨fr',H',b,d⟩;cases e with
 |exit f=>
  simp only[I6,Exit.inBlock] at b|-
  grind
 |_=>exact⟨fr',H',b,d⟩
def hZ.region{id:Nat}{ops:Array Oper}(E:List Nat)(b:A4 n ops=true)(h:iK P T E ops ops.toList (Q .normal) fr H):hZ P T n (.region id ops false) Q fr H:=by
 intro G0 F0 n0 w0 a w hs;refine wp_region ?_;have:=Qh (Q:=λe c w'=>∃fr' H',Q e fr' H'/\SR T n G0 F0 n0 w0 fr' H' c w') b (λfr' H' c w' d f=>⟨fr',H',d,f⟩) ops.toList 0 fr H a w aa2 hs h;rw[aaJ]
 grind
def ALp(P:Program)(T:eN)(n:Nat)(c:Code)(Q:Exit->Fr->dY->Prop)(fr:Fr)(H:dY):Prop:=
 ∀G0 F0 n0 w0 a w,SR T n G0 F0 n0 w0 fr H a w->∀(b:Frame) (k:List Item) (cs:List Frame),∃e d w',(∃fr' H',Q e fr' H'/\SR T n G0 F0 n0 w0 fr' H' d w')/\Arrives P (lone (b.at a (.code c::.inLoop c::k)) cs w) b k cs e d w'
def hZ.loop{c:Code}(h:ALp P T n c Q fr H):hZ P T n (.loop c) Q fr H:=by
 intro G0 F0 n0 w0 a w hs b k cs;obtain⟨e,f,w',i,d⟩:=h G0 F0 n0 w0 a w hs b k cs;exact⟨e,f,w',i,.of_steps (.one step_loop) d⟩
theorem ALp.round{c:Code}(h:hZ P T n c (IS (ALp P T n c Q) Q) fr H):ALp P T n c Q fr H:=by
 intro G0 F0 n0 w0 a w hs b k cs;obtain⟨e,j,o,⟨fr',H',i,r⟩,d⟩:=h G0 F0 n0 w0 a w hs b (.inLoop c::k) cs
 have pass:∀e,e≠ .normal->Q e fr' H'->Arrives P (lone (b.at a (.code c::.inLoop c::k)) cs w) b (.inLoop c::k) cs e j o->∃e s w',(∃fr' H',Q e fr' H'/\SR T n G0 F0 n0 w0 fr' H' s w')/\Arrives P (lone (b.at a (.code c::.inLoop c::k)) cs w) b k cs e s w':=by
  intro e he t d;exact⟨e,j,o,⟨fr',H',t,r⟩,.pass (x:=.inLoop c) rfl (λ_ _=>.inl he) d⟩
 cases e with
 |normal=>
  have u:ALp P T n c Q fr' H':=i;obtain⟨v,y,A,q,f⟩:=u G0 F0 n0 w0 j o r b k cs;exact⟨v,y,A,q,.of_steps (Steps.trans d (.one step_inLoop)) f⟩
 |exit id=>exact pass _ aa2 i d|goto l=>exact pass _ aa2 i d|ret=>exact pass _ aa2 i d|panic B=>exact pass _ aa2 i d|outgrown=>exact pass _ aa2 i d
end
def PD(args:List AV):Fr:={env:=λt=>args.getD t (.tuple []),box:=λ_=>none,gen:=λ_=>0,qh:=λ_=>none,fi:=λ_=>0}
def KB(P:Program)(fr:Fr)(H:dY):List ResultVar->Option (List AV)
 |[]=>some []|.tmp t::rest=>(KB P fr H rest).map ((fr.env t).norm:: ·)|.cell a t::rest=>(vq P fr H t (fr.env a)).bind λv=>(KB P fr H rest).map (v.norm:: ·)
def wk:List AV->AV
 |[x]=>x|l=>.tuple l
def Aw(P:Program)(rs:List ResultVar)(Post:AV->dY->Prop):Exit->Fr->dY->Prop
 |.normal,fr,H|.ret,fr,H=>match KB P fr H rs with
  |some l=>Post (wk l) H|none=>False
 |_,_,_=>False
section
variable{P:Program} {T:eN} {n:Nat} {fr:Fr} {H:dY} {a:Act} {w:World}
def Vd(tmps:Array Value)(x:ResultVar):Sem Value:=
 match x with
 |.tmp t=>pure (tmps.getD t undef)|.cell a t=>do loadVar t (<-asAddr (tmps.getD a undef))
def EM{t:TypeId}{u v:Value}(h:(Instr.loadAt t u).run P w=.ok v w):(do loadVar t (<-asAddr u)).run P w=.ok v w:=by
 unfold Instr.loadAt at h;cases u with
 |pointer p=>
  cases p with
  |none=>simp[Instr.sureAddr,h7,stuck,Sem.run,Result.andThen] at h
  |some a=>exact h
 |_=>simp[Instr.sureAddr,h7,stuck,Sem.run,Result.andThen] at h
def U1{ρ:Maps}{F:kM}{R:Nat->ou}{B0:Nat}(h:WR T n B0 ρ F R fr H a w):∀(rs:List ResultVar) (l:List AV),KB P fr H rs=some l->∃vs:List Value,(rs.mapM (Vd a.tmps)).run P w=.ok vs w/\hO F ρ.G ρ.n l vs:=by
 intro rs
 induction rs with
 |nil=>intro l b;simp[KB] at b;subst b;exact⟨[],rfl,.nil⟩
 |cons r rs ih=>
  intro l b;cases r with
  |tmp t=>
   simp only[KB,Zn] at b;obtain⟨c,d,rfl⟩:=b;obtain⟨vs,f,i⟩:=ih c d;refine⟨a.tmps.getD t undef::vs,?_,.cons (h.env t).norm i⟩;simp only[aaQ,h7,Vd,pP,j8,f]
  |cell j t=>
   simp only[KB,acM,Zn] at b;obtain⟨v,o,c,d,rfl⟩:=b;obtain⟨vs,f,i⟩:=ih c d;obtain⟨u,hu,q⟩:=Lr h o (h.env j);refine⟨u::vs,?_,.cons q.norm i⟩;have k:=EM hu;simp only[aaQ];rw[h7];have e:(Vd a.tmps (.cell j t))=(do loadVar t (<-asAddr (a.tmps.getD j undef))):=rfl;rw[e,k,j8,h7,f];rfl
def N_{ρ:Maps}{F:kM}{R:Nat->ou}{B0:Nat}(h:WR T n B0 ρ F R fr H a w){fn:Func}{l:List AV}(c:KB P fr H fn.results.toList=some l):∃v,(results fn a.tmps).run P w=.ok v w/\gQ F ρ.G ρ.n (wk l) v:=by
 obtain⟨vs,d,f⟩:=U1 (P:=P) h _ _ c
 have e:results fn a.tmps=(do
   let vs<-fn.results.mapM (Vd a.tmps)
   pure (if h:vs.size=1 then vs[0] else .tuple vs)):=rfl
 have hm:(fn.results.mapM (Vd a.tmps)).run P w=.ok vs.toArray w:=by
  rw[ahG,run_map,d];rfl
 rw[e,h7,hm,j8,pP];refine⟨_,rfl,?_⟩;cases f with
 |nil=>exact .tuple (vs:=[]) .nil|cons b i=>
  cases i with
  |nil=>exact b|cons j k=>
   have:=gQ.tuple (.cons b (.cons j k));simpa[wk] using this
open Classical in
def fC.intro{f:FuncId}{fn:Func}{c:Code}{args:List AV}{Post:AV->dY->Prop}(N:P.funcs[f]?=some fn)(O:fn.body=some c)(q:kN P f=true)(hlen:args.length<=fn.ntmps)
  (h:hZ P T fn.ntmps c (Aw P fn.results.toList Post) (PD args) H):fC P T f args H Post:=by
 refine⟨q,λG F w vs hg J=>?_⟩;refine calls_of_wp N O ?_;have s:args.length=vs.length:=J.length
 let ρ:Maps:={G:=G,n:=H.length,L:=λ_ _=>0,lg:=λ_=>0,A:=λ_ _=>none,ag:=λ_=>0}
 let R:Nat->ou:=λb=>if∃o,o<H.length/\G o=b then .lK else .free
 have hw:WR T fn.ntmps w.heap.size ρ F R (PD args) H {tmps:=vs.toArray++Array.replicate (fn.ntmps-vs.toArray.size) undef,defers:=[]} w:=by
  refine⟨hg,?_,rfl,?_,rfl,λ_=>rfl,λ_=>rfl,?_,?_,?_,?_,?_,gY _⟩
  ·simp only[Array.size_append,afg,Array.size_replicate];omega
  ·intro t;show gG F ρ (args.getD t (.tuple [])) _;rcases vh t args.length with ht|ht
   ·obtain⟨v,x,y⟩:=J.get (o9 ht)
    have B:args.getD t (.tuple [])=args[t]:=by simp[ht]
    have C:(vs.toArray++Array.replicate (fn.ntmps-vs.toArray.size) undef).getD t undef=v:=by
     rw[Np,Array.getElem?_append_left (by simpa[<-s] using ht)];simp[x]
    rw[B,C];exact .p y
   ·have B:args.getD t (.tuple [])=.tuple []:=by simp[aee ht]
    have C:(vs.toArray++Array.replicate (fn.ntmps-vs.toArray.size) undef).getD t undef=undef:=by
     rw[Np,Array.getElem?_append_right (by simpa[<-s] using ht),Array.getElem?_replicate]
     split<;>rfl
    rw[B,C];exact GA
  ·intro d cs Q;cases Q
  ·intro k m S;cases S
  ·intro b j v x d;show(if∃o,o<H.length/\G o=b then ou.lK else .free)≠ .box d
   split<;>simp
  ·intro o D;show(if∃o',o'<H.length/\G o'=G o then ou.lK else .free)=.lK;rw[dR ⟨o,D,rfl⟩]
  ·intro b U;show(if∃o,o<H.length/\G o=b then ou.lK else .free)=.free;rw[dK];rintro⟨o,D,rfl⟩;obtain⟨X,V,_⟩:=hg.lK o _ (o9 D);have:=p1 V;omega
 refine wp_mono (h G F H.length w _ w ⟨ρ,F,R,hw,Ext.refl⟩) ?_;rintro e K w' ⟨fr',H',a,ρ',F',Y,i,I⟩
 have key:∀{l:List AV},KB P fr' H' fn.results.toList=some l->Post (wk l) H'->K.defers=[]/\∃v,(results fn K.tmps).run P w'=.ok v w'/\∃r H' M G' F',Post r H'/\Ending.returned v=.returned M/\GW T G' F' H' w'/\gQ F' G' H'.length r M/\Ext w.heap.size G F H.length w G' F' H'.length w':=by
  intro l u W;obtain⟨v,x,y⟩:=N_ i u;rw[i.hn] at y;exact⟨i.defers,v,x,_,_,v,_,_,W,rfl,i.g,y,I⟩
 cases e with
 |normal=>
  simp only[Aw] at a
  split at a
  ·rename_i l u;exact key u a
  ·exact a.elim
 |ret=>
  simp only[Aw] at a
  split at a
  ·rename_i l u;exact key u a
  ·exact a.elim
 |_=>exact a.elim
end
end Go.kY
