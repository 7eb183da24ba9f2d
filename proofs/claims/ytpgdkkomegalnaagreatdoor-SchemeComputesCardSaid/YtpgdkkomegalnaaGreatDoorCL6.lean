/- Part of the proof of SchemeComputes: layer. -/
import Derived.Laws.IdiomStrings
import Derived.Scope
import Derived.Test.YtpgdkkomegalnaaGreatDoorCL5
set_option linter.all false
namespace Go.ld
open Go
def kW(P:Program)(f:FuncId):Bool:=
 match P.funcs[f]?with
 |some fn=>fn.body.isSome&&fn.name != "runtime.NumGoroutine"
 |none=>false
def fH(P:Program)(T:eO)(f:FuncId)(args:List AV)(H:dZ)(Post:AV->dZ->Prop):Prop:=
 kW P f=true/\∀(G:Nat->Nat) (F:kT) (w:World) (vs:List Value),GW T G F H w->hO F G H.length args vs->Calls P f vs.toArray w λe w'=>∃r H' v G' F',Post r H'/\e=.returned v/\GW T G' F' H' w'/\gR F' G' H'.length r v/\Ext w.heap.size G F H.length w G' F' H'.length w'
def eP(P:Program)(T:eO)(f:FuncId)(args:List AV)(H:dZ)(r:AV)(H':dZ):Prop:=fH P T f args H λb a=>b=r/\a=H'
theorem fH.mono{P:Program}{T:eO}{f:FuncId}{args:List AV}{H:dZ}{Post Post':AV->dZ->Prop}(h:fH P T f args H Post)(a:∀r H',Post r H'->Post' r H'):fH P T f args H Post':=
 ⟨h.1,λG F w vs hg b=>(h.2 G F w vs hg b).mono λ_ _ ⟨r,H',v,G',F',c,d⟩=>⟨r,H',v,G',F',a _ _ c,d⟩⟩
def eP.post{P:Program}{T:eO}{f:FuncId}{args:List AV}{H H':dZ}{r:AV}{Post:AV->dZ->Prop}(h:eP P T f args H r H')(a:Post r H'):fH P T f args H Post:=
 fH.mono h λi b ⟨c,d⟩=>by subst c;subst d;exact a
def o7(P:Program)(T:eO)(a:AV)(args:List AV)(H:dZ)(Post:AV->dZ->Prop):Prop:=
 match a with
 |.func (.func g) first cap=>fH P T g (first++args++cap) H Post
 |_=>False
section
variable{P:Program} {T:eO} {n:Nat} {G0:Nat->Nat} {F0:kT} {n0:Nat} {w0:World} {fr:Fr} {H:dZ} {a:Act} {w:World}
open Classical in
def WR.called{ρ:Maps}{F:kT}{R:Nat->oz}{B0:Nat}(h:WR T n B0 ρ F R fr H a w){G':Nat->Nat}{F':kT}{H':dZ}{w':World}(hg:GW T G' F' H' w')
  (l:Ext w.heap.size ρ.G F H.length w G' F' H'.length w'):∃ρ' u,ρ'.G=G'/\ρ'.n=H'.length/\WR T n B0 ρ' F' u fr H' a w':=by
 let ρ':Maps:={ρ with G:=G',n:=H'.length}
 let u:Nat->oz:=λb=>if∃o,H.length<=o/\o<H'.length/\G' o=b then .lW else R b
 have A:H_ F F' ρ.G G' ρ.n H'.length:=by
  refine⟨λb o v K=>?_,by rw[h.hn];exact l.len,λo s=>l.hG o (by rw[<-h.hn];exact s)⟩;exact l.mF b o v (h.aiu K) K
 have x:xD F F' ρ ρ':=⟨A,λ_=>g_ _,λ_ _ _=>rfl,λ_=>g_ _,λ_ _ _=>rfl⟩
 have f:∀b,b<w.heap.size->u b=R b:=by
  intro b hb;show(if∃o,H.length<=o/\o<H'.length/\G' o=b then oz.lW else R b)=R b;rw[dK];rintro⟨o,h1,r,rfl⟩;have:=l.MQ o h1 r;omega
 have q:∀b,R b≠ .lW->∀o,o<H.length->ρ.G o≠b:=by
  rintro b hb o s rfl;exact hb (h.ou o s)
 refine⟨ρ',u,rfl,rfl,⟨hg,h.size,h.defers,h.env.grow x,rfl,h.lg,h.ag,?_,?_,?_,?_,?_,A5 h.qw l.size⟩⟩
 ·intro d cs M;obtain⟨h1,r,B,vs,ty,t,C⟩:=h.box d cs M;have i:=qp t;exact⟨h1,by rw[f _ i];exact r,B,vs,ty,(l.heap _ i (q _ (by rw[r];simp))).trans t,C.mono λ_ _ _ h=>h.grow x⟩
 ·intro k m N b c sz O;obtain⟨h1,r,B,D,⟨vs,ty,t,C⟩,P⟩:=h.tok k m N b c sz O;have i:=qp t;refine⟨h1,by rw[f _ i];exact r,B,D,⟨vs,ty,(l.heap _ i (q _ (by rw[r];simp))).trans t,C⟩,λj Q=>?_⟩;rw[l.hF b j i (q _ (by rw[r];simp))];exact P j Q
 ·intro b j v L;rcases vb b w.heap.size with hb|hb
  ·rw[f b hb]
   by_cases y:∃o,o<H.length/\ρ.G o=b
   ·obtain⟨o,s,rfl⟩:=y;rw[h.ou o s];simp
   ·rw[l.hF b j hb λo s e=>y ⟨o,s,e⟩] at L;exact h.qt b j v L
  ·intro d;show(if∃o,H.length<=o/\o<H'.length/\G' o=b then oz.lW else R b)≠ .box d
   split
   ·simp
   ·rw[h.lL b hb];simp
 ·intro o s;rcases vb o H.length with h1|h1
  ·have I:=h.ou o h1
   have i:ρ.G o<w.heap.size:=by
    rcases vb (ρ.G o) w.heap.size with h'|h'
    ·exact h'
    ·rw[h.lL _ h'] at I;cases I
   show u (G' o)=.lW;rw[l.hG o h1,f _ i];exact I
  ·show(if∃o',H.length<=o'/\o'<H'.length/\G' o'=G' o then oz.lW else R (G' o))=.lW;rw[dR ⟨o,h1,s,rfl⟩]
 ·intro b hb;show(if∃o,H.length<=o/\o<H'.length/\G' o=b then oz.lW else R b)=.free;rw[dK]
  ·exact h.lL b (A5 l.size hb)
  ·rintro⟨o,h1,r,rfl⟩;have J:H'[o]?=some H'[o]:=po r;obtain⟨S,t,_⟩:=hg.lW o _ J;have:=qp t;omega
end
def J2(E:List Nat)(dst:Option Nat)(v:AV)(K:Fr->dZ->Prop)(fr:Fr)(H:dZ):Prop:=
 if dst.any E.contains then(match v with|.slice _ l=>K (fr.put dst (.z' H.length 0 l.length l.length)) (H++[l.flatMap AV.cells])|_=>False)else K (fr.put dst v) H
def Yg(P:Program)(dst:Option Nat)(s d:TypeId)(x:AV)(K:Fr->dZ->Prop)(fr:Fr)(H:dZ):Prop:=
 match VY P s d x with
 |some v=>K (fr.put dst v) H|none=>match P.underlying s,P.underlying d,x with
  |some .string,some (.slice e),.sc (.string y)=>P.underlying e=some (.int .u8)/\y.size<=kG/\∀cap k,y.size<=cap->K (fr.put dst (.z' H.length 0 y.size cap)) (H++[qf y++zd k])|_,_,_=>False
def q9(P:Program)(T:eO)(E:List Nat)(o:Oper)(K:Fr->dZ->Prop)(fr:Fr)(H:dZ):Prop:=
 match o.op with
 |.alloc t=>match kj P t with
  |some z=>k7 E o.dst z K fr H|none=>False
 |.box _ x=>fC (ev T fr x)=true/\k7 E o.dst (ev T fr x).cells K fr H|.load t x=>match vz P fr H t (ev T fr x)with
  |some v=>K (fr.put o.dst v) H|none=>False
 |.store t x y=>o.dst=none/\l_ P t (ev T fr x) (ev T fr y) K fr H|.buildSlice t n a=>match mU P t n (a.toList.map λp=>(p.1,ev T fr p.2))with
  |some v=>J2 E o.dst v K fr H|none=>False
 |.makeSlice t l c=>match zg P t (ev T fr l) (ev T fr c)with
  |some v=>K (fr.put o.dst v) H|none=>False
 |.convert s d x=>Yg P o.dst s d (ev T fr x) K fr H|.call c=>match c.callee with
  |.builtin .append=>(nj P T c o.dst K fr H\/EK P T c o.dst K fr H)\/E4 P T c o.dst K fr H\/pd P T c o.dst K fr H|.builtin _=>match yC P T fr c with
   |some v=>K (fr.put o.dst v) H|none=>False
  |.value f=>o7 P T (ev T fr f) (c.args.toList.map λx=>(ev T fr x).norm) H λr H'=>K (fr.put o.dst r) H'|.invoke _ _=>False
 |.makeMap _ none=>Js o.dst K fr H|.mapUpdate t m k x=>o.dst=none/\sF P t (ev T fr m) (ev T fr k) (ev T fr x) K fr H|.insert t m k x=>o.dst=none/\sF P t (ev T fr m) (ev T fr k) (ev T fr x) K fr H|.lookup t x i ok=>match vM P H t (ev T fr x) (ev T fr i) ok with
  |some v=>K (fr.put o.dst v) H|none=>False
 |.range t x=>I3 P t (ev T fr x) o.dst K fr H|.next it false=>LW (ev T fr it) o.dst K fr H|.entry it=>match Ge (ev T fr it) H with
  |some v=>K (fr.put o.dst v) H|none=>False
 |_=>match AG P T fr o with
  |some v=>K (fr.put o.dst v) H|none=>False
def sM(n:Nat)(o:Oper):Bool:=o.dst.all (λd=>decide (d<n))&&o.op.operands.all jq
def zx{n:Nat}{o:Oper}(h:sM n o=true):∀d,o.dst=some d->d<n:=by grind[sM]
def Pk{n:Nat}{o:Oper}(h:sM n o=true):o.op.operands.all jq=true:=by grind[sM]
section
variable{P:Program} {T:eO} {n:Nat} {G0:Nat->Nat} {F0:kT} {n0:Nat} {w0:World} {fr:Fr} {H:dZ} {a:Act} {w:World}
def MH(w:World){f:FuncId}(h:kW P f=true)(args:Array Value):(callFunc f args).run P w=.ok (.enter f args) w:=by
 unfold kW at h
 split at h
 ·rename_i fn a;simp only[hE] at h;simp[callFunc,a,h.2]
  grind
 ·cases h
def KX{ρ:Maps}{F:kT}{R:Nat->oz}(h:WR T n w0.heap.size ρ F R fr H a w)(r:Ext w0.heap.size G0 F0 n0 w0 ρ.G F H.length w)(s d:TypeId){e:TypeId}(y:ByteArray)(hs:P.underlying s=some .string)(t:P.underlying d=some (.slice e))
  (he:P.underlying e=some (.int .u8)) (f:y.size<=kG) {dst:Option Nat} (i:∀d,dst=some d->d<n):∃w',(convert s d (.string y)).run P w=.ok (.slice (some ⟨w.heap.size,0,none⟩) y.size (grownCap w y.size 0 e)) w'/\SR T n G0 F0 n0 w0 (fr.put dst (.z' H.length 0 y.size (grownCap w y.size 0 e))) (H++[qf y++zd (grownCap w y.size 0 e-y.size)]) (a.put dst (.slice (some ⟨w.heap.size,0,none⟩) y.size (grownCap w y.size 0 e))) w':=by
 have j:=grownCap_ge w y.size 0 e;have hle:=grownCap_le_maxLen w y.size 0 e (by have:y.size<=549755813888:=f;simp only[maxLen];omega);refine⟨_,run_bytes_of_string w s d e y hs t he,sQ h.drew r.drew (.cells (.inr (g_ _)) ?_ ?_) i ?_⟩
 ·have u:(bytesRow y (grownCap w y.size 0 e)).toList=Lib.strCells y++List.replicate (grownCap w y.size 0 e-y.size) (.int .u8 0):=by
   simp[bytesRow,Lib.strCells]
  rw[u];refine .append ?_ ?_
  ·have x:=(wz (F:=F) (G:=ρ.G) (k:=ρ.n) (Lib.strCells y) (λv A=>by obtain⟨b,_,rfl⟩:=qz.1 A;rfl)).qF
   have B:(Lib.strCells y).map AV.sc=qf y:=by simp[Lib.strCells,qf]
   rwa [B] at x
  ·generalize grownCap w y.size 0 e-y.size=k
   induction k with
   |zero=>exact .nil|succ k ih=>
    show hQ _ (List.replicate (k+1) AV.undef) (List.replicate (k+1) _);exact .cons (.undef rfl) ih
 ·intro c hc;rcases tO.1 hc with hc|hc
  ·obtain⟨b,_,rfl⟩:=qz.1 hc;rfl
  ·exact yw _ c hc
 ·intro ρ' hG l q;have:=gR.z' (F:=F) (G:=ρ'.G) (n:=ρ'.n) (o:=H.length) (off:=0) (len:=y.size) (cap:=grownCap w y.size 0 e) (by rw[q];omega) j hle;rw[l] at this;exact this
def Hw{E:List Nat}{o:Oper}{K:Fr->dZ->Prop}{Q:Exit->Act->World->Prop}(U:sM n o=true)(hs:SR T n G0 F0 n0 w0 fr H a w)(h:q9 P T E o K fr H):o.wp P a w (λZ w'=>∃fr' H',K fr' H'/\SR T n G0 F0 n0 w0 fr' H' Z w') Q:=by
 obtain⟨ρ,F,R,hw,A⟩:=hs;have D:=zx U;have N:=Pk U
 have M:∀{v:AV},(∃u,(execOp a.eval o).run P w=.ok (.value u) w/\gI F ρ v u)->K (fr.put o.dst v) H->o.wp P a w (λZ w'=>∃fr' H',K fr' H'/\SR T n G0 F0 n0 w0 fr' H' Z w') Q:=by
  rintro v ⟨u,O,hu⟩ J;unfold Oper.wp;rw[O];exact⟨_,_,J,ρ,F,R,hw.put D hu,A⟩
 have q:∀{s:Sem Value} {u:Value} {w':World},execOp a.eval o=(do pure (.value (<-s)))->s.run P w=.ok u w'->(∃fr' H',K fr' H'/\SR T n G0 F0 n0 w0 fr' H' (a.put o.dst u) w')->o.wp P a w (λZ w'=>∃fr' H',K fr' H'/\SR T n G0 F0 n0 w0 fr' H' Z w') Q:=by
  intro s u w' he O J;unfold Oper.wp;rw[he,ia,O];exact J
 obtain⟨dst,op,type,pos,after,guard⟩:=o;simp only at N D;have j:∀x∈op.operands,jq x=true:=λx A=>Lq.1 N x A;unfold q9 at h;simp only at h
 split at h
 ·--alloc
  rename_i t
  split at h
  ·rename_i cells an;obtain⟨z,hz,ao,aq,rfl⟩:=L0 an;have ar:=h
   have aw:∀vs,z≠ .tuple vs:=by rintro vs rfl;simp[ofValue,fC] at aq
   obtain⟨ad,ax⟩:=C9 ao aw;refine q (s:=Instr.alloc t true (.tuple #[])) rfl (QO w hz) ?_;refine Hm hw A ar D t ?_ ?_
   ·rw[ad];exact(qM F ρ.G ρ.n _ ax).qF.mono λ_ _ _ h=>.p h
   ·rw[ad];intro c W;obtain⟨u,_,rfl⟩:=qz.1 W;exact zU u
  ·exact h.elim
 ·--box
  rename_i t x;obtain⟨h1,h2⟩:=h;have I:=gH hw.env hw.iy x (j x (by simp[Op.operands]));exact q (s:=Instr.box t (a.eval x)) rfl rfl (Hm hw A h2 D t (I.cells (iS h1)) (I.so (iS h1)))
 ·--load
  rename_i t x
  split at h
  ·rename_i v C;have I:=gH hw.env hw.iy x (j x (by simp[Op.operands]));obtain⟨u,hu,O⟩:=Md hw C I;exact q (s:=Instr.loadAt t (a.eval x)) rfl hu ⟨_,_,h,ρ,F,R,hw.put D O,A⟩
  ·exact h.elim
 ·--store
  rename_i t x y;obtain⟨L,h⟩:=h;subst L;have I:=gH hw.env hw.iy x (j x (by simp[Op.operands]));have ay:=gH hw.env hw.iy y (j y (by simp[Op.operands]));obtain⟨fr',H',w',b,J,hs⟩:=Of hw A h I ay;unfold Oper.wp;have e:execOp a.eval {dst:=none,op:=.store t x y,type:=type,pos:=pos,after:=after,guard:=guard}=(do Instr.storeAt t (a.eval x) (a.eval y);pure .skip):=rfl;rw[e,ia,b];exact⟨fr',H',J,hs⟩
 ·--buildSlice
  rename_i t k ps
  split at h
  ·rename_i v C;have hp:=Kh hw.env hw.iy ps.toList λp hp=>j p.2 (by simp[Op.operands];exact⟨p.1,by simpa using hp⟩)
   have e:(ps.toList.map λp=>(p.1,a.eval p.2)).toArray=ps.map λp=>(p.1,a.eval p.2):=by rw[<-PZ,Va]
   unfold J2 at h
   split at h
   ·split at h
    ·obtain⟨u,w',b,hs⟩:=Ff hw A C hp D;rw[e] at b;unfold Oper.wp;simp only[execOp,ia,b,kl];exact⟨_,_,h,hs⟩
    ·exact h.elim
   ·obtain⟨u,w',b,hs⟩:=GD hw A C hp D;rw[e] at b;unfold Oper.wp;simp only[execOp,ia,b,kl];exact⟨_,_,h,hs⟩
  ·exact h.elim
 ·--makeSlice
  rename_i t l c
  split at h
  ·rename_i v C;obtain⟨u,w',b,hs⟩:=HR hw A C (gH hw.env hw.iy l (j l (by simp[Op.operands]))) (gH hw.env hw.iy c (j c (by simp[Op.operands]))) D;exact q (s:=Instr.makeSlice t (a.eval l) (a.eval c)) rfl b ⟨_,_,h,hs⟩
  ·exact h.elim
 ·--convert
  rename_i t d x;have I:=gH hw.env hw.iy x (j x (by simp[Op.operands]));unfold Yg at h
  split at h
  ·rename_i v C;refine M (v:=v) (Ds w hw.g.G5 hw.env hw.iy N ?_) h;simp only[AG];exact C
  ·split at h
   ·rename_i e y hs az aA;obtain⟨he,ae,h⟩:=h;rw[aA] at I;have C:=gl I;obtain⟨w',b,aB⟩:=KX hw A t d y hs az he ae D;refine q (s:=convert t d (a.eval x)) rfl (by rw[C];exact b) ⟨_,_,h _ _ (by simpa using grownCap_ge w y.size 0 e),aB⟩
   ·exact h.elim
 ·--call
  rename_i c;obtain⟨callee,args,argTypes⟩:=c;have B:∀x∈args.toList,jq x=true:=λx A=>j x (by simp[Op.operands,Call.operands,yp.1 A])
  split at h
  ·--append
   rename_i W;simp only at W;subst W;obtain⟨u,w',fr',H',b,J,hs⟩:=h.elim (λh=>h.elim (λh=>Nk (ty:=type) hw A h D B) (λh=>Lm (ty:=type) hw A h D B)) (λh=>h.elim (λh=>KS (ty:=type) hw A h D B) (λh=>KM (ty:=type) hw A h D B));unfold Oper.wp execOp;simp only[resolve,invoke,builtin,ia,pH,kl];rw[b];exact⟨fr',H',J,hs⟩
  ·--af builtin
   split at h
   ·rename_i v C;refine M (v:=v) (Ds w hw.g.G5 hw.env hw.iy N ?_) h;simp only[AG];exact C
   ·exact h.elim
  ·--a V value
   rename_i f W;simp only at W;subst W;unfold o7 at h;have ah:=gH hw.env hw.iy f (j f (by simp[Op.operands,Call.operands]))
   split at h
   ·rename_i g first cap hf
    rw[hf] at ah;obtain⟨vf,vc,C,aC,aD⟩:=Cp ah;obtain⟨ai,X⟩:=h;have S:=Jw hw.env hw.iy args.toList B
    have Y:hO F ρ.G H.length (first++(args.toList.map λx=>(ev T fr x).norm)++cap) (vf++args.toList.map a.eval++vc):=by
     rw[<-hw.hn];exact((hO.pc aC).append S).append (.pc aD)
    have hC:=X ρ.G F w _ hw.g Y;unfold Oper.wp
    have e:(execOp a.eval {dst:=dst,op:=.call {callee:=.value f,args:=args,argTypes:=argTypes},type:=type,pos:=pos,after:=after,guard:=guard}).run P w=.ok (.enter g (vf++args.toList.map a.eval++vc).toArray) w:=by
     simp only[execOp,resolve,ia];rw[C];simp only[Deferred.ofValue,pH,kl,invoke];rw[MH w ai]
     congr 2
     apply Gp.1;simp
    rw[e];show Calls P g _ w _;refine hC.mono ?_;rintro e' w' ⟨r,H',v,G',F',J,rfl,aE,aF,ak⟩;obtain⟨ρ',R',hG,aG,aH⟩:=hw.called aE ak;refine⟨_,_,J,ρ',F',R',aH.put D (.p ?_),?_⟩
    ·rw[hG,aG];exact aF
    ·rw[hG];exact A.trans (ak.mono hw.qw)
   ·exact h.elim
  ·exact h.elim
 ·--makeMap
  obtain⟨v,w',b,hs⟩:=Li (P:=P) hw A D;exact q (s:=Instr.makeMap _ none) rfl b ⟨_,_,h,hs⟩
 ·--mapUpdate
  rename_i t m k x;obtain⟨L,h⟩:=h;subst L;obtain⟨fr',H',w',b,J,hs⟩:=Ey hw A h (gH hw.env hw.iy m (j m (by simp[Op.operands]))) (gH hw.env hw.iy k (j k (by simp[Op.operands]))) (gH hw.env hw.iy x (j x (by simp[Op.operands])));unfold Oper.wp;have e:execOp a.eval {dst:=none,op:=.mapUpdate t m k x,type:=type,pos:=pos,after:=after,guard:=guard}=(do Instr.mapUpdate t (a.eval m) (a.eval k) (a.eval x);pure .skip):=rfl;rw[e,ia,b];exact⟨fr',H',J,hs⟩
 ·--insert
  rename_i t m k x;obtain⟨L,h⟩:=h;subst L;obtain⟨fr',H',w',b,J,hs⟩:=Ey hw A h (gH hw.env hw.iy m (j m (by simp[Op.operands]))) (gH hw.env hw.iy k (j k (by simp[Op.operands]))) (gH hw.env hw.iy x (j x (by simp[Op.operands])));unfold Oper.wp;have e:execOp a.eval {dst:=none,op:=.insert t m k x,type:=type,pos:=pos,after:=after,guard:=guard}=(do Instr.mapUpdate t (a.eval m) (a.eval k) (a.eval x);pure .skip):=rfl;rw[e,ia,b];exact⟨fr',H',J,hs⟩
 ·--lookup
  rename_i t x i ok
  split at h
  ·rename_i v C;obtain⟨u,hu,O⟩:=Pj hw C (gH hw.env hw.iy x (j x (by simp[Op.operands]))) (gH hw.env hw.iy i (j i (by simp[Op.operands])));exact q (s:=Instr.lookup t (a.eval x) (a.eval i) ok) rfl hu ⟨_,_,h,ρ,F,R,hw.put D O,A⟩
  ·exact h.elim
 ·--range
  rename_i t x;obtain⟨v,w',fr',H',b,J,hs⟩:=N' hw A h D (gH hw.env hw.iy x (j x (by simp[Op.operands])));exact q (s:=Instr.range t (a.eval x)) rfl b ⟨_,_,J,hs⟩
 ·--next
  rename_i it;obtain⟨v,w',fr',H',b,J,hs⟩:=Sd hw A type h D (gH hw.env hw.iy it (j it (by simp[Op.operands])));exact q (s:=Instr.next (a.eval it) false type) rfl b ⟨_,_,J,hs⟩
 ·--entry
  rename_i it
  split at h
  ·rename_i v C;obtain⟨u,hu,O⟩:=QX (P:=P) hw C (gH hw.env hw.iy it (j it (by simp[Op.operands])));exact q (s:=Instr.entry (a.eval it)) rfl hu ⟨_,_,h,ρ,F,R,hw.put D O,A⟩
  ·exact h.elim
 ·--all others only compute
  split at h
  ·rename_i v C;exact M (v:=v) (Ds w hw.g.G5 hw.env hw.iy N C) h
  ·exact h.elim
end
end Go.ld
namespace Go.ld
open Go
def ES(P:Program)(T:eO)(E:List Nat)(ops:Array Oper)(o:Oper)(K:Fr->dZ->Prop)(fr:Fr)(H:dZ):Prop:=
 match o.guard with
 |none=>q9 P T E o K fr H|some (j,want)=>
  match(ops[j]?).bind (·.dst)with
  |some d=>
   match fr.env d with
   |.sc (.bool b)=>if b=want then q9 P T E o K fr H else K (fr.put o.dst (.tuple [])) H|.tuple _=>K (fr.put o.dst (.tuple [])) H|_=>False
  |none=>False
def iQ(P:Program)(T:eO)(E:List Nat)(ops:Array Oper):List Oper->(Fr->dZ->Prop)->Fr->dZ->Prop
 |[],K,fr,H=>K fr H|o::rest,K,fr,H=>ES P T E ops o (λfr H=>iQ P T E ops rest K fr H) fr H
def Bu(n:Nat)(ops:Array Oper):Bool:=ops.all (sM n)
section
variable{P:Program} {T:eO} {n:Nat} {G0:Nat->Nat} {F0:kT} {n0:Nat} {w0:World} {fr:Fr} {H:dZ} {a:Act} {w:World}
def Hn{F:kT}{ρ:Maps}:gI F ρ (.tuple []) undef:=.p (.tuple (vs:=[]) .nil)
theorem SR.put(hs:SR T n G0 F0 n0 w0 fr H a w){d:Option Nat}(c:∀b,d=some b->b<n):SR T n G0 F0 n0 w0 (fr.put d (.tuple [])) H (a.put d undef) w:=by
 obtain⟨ρ,F,R,hw,f⟩:=hs;exact⟨ρ,F,R,hw.put c Hn,f⟩
def RS(hs:SR T n G0 F0 n0 w0 fr H a w){ops:Array Oper}{j d:Nat}{b:Bool}(i:(ops[j]?).bind (·.dst)=some d)(he:fr.env d=.sc (.bool b)):yielded ops a.tmps j=some b:=by
 obtain⟨ρ,F,R,hw,k⟩:=hs;have h:=hw.env d;rw[he] at h;have c:=gl h;unfold yielded;cases f:a.tmps[d]?with
 |none=>rw[OY,f] at c;cases c
 |some v=>simp_all
def Lo(hs:SR T n G0 F0 n0 w0 fr H a w){ops:Array Oper}{j d:Nat}{l:List AV}(b:(ops[j]?).bind (·.dst)=some d)(he:fr.env d=.tuple l):yielded ops a.tmps j=none:=by
 obtain⟨ρ,F,R,hw,f⟩:=hs;have h:=hw.env d;rw[he] at h;unfold yielded;rw[b];simp only[ye];cases c:a.tmps[d]?with
 |none=>rfl|some v=>
  rw[OY,c] at h;cases h with
  |cell h=>cases h with|p h=>cases h;rfl
def GZ{E:List Nat}{ops:Array Oper}{i:Nat}{o:Oper}{K:Fr->dZ->Prop}{Q:Exit->Act->World->Prop}(hi:ops[i]?=some o)(c:sM n o=true)(hs:SR T n G0 F0 n0 w0 fr H a w)
  (h:ES P T E ops o K fr H) {N:Act->World->Prop} (q:∀fr' H' k w',K fr' H'->SR T n G0 F0 n0 w0 fr' H' k w'->N k w'):wpOp P ops Q i N a w:=by
 unfold wpOp;simp only[hi];unfold ES at h
 split at h
 ·rename_i hg;rw[dR (by simp[Region.wanted,hg])];exact .inl (Oper.wp_mono (λk w' ⟨fr',H',s,f⟩=>q fr' H' k w' s f) (Hw c hs h))
 ·rename_i j want hg
  split at h
  ·rename_i d u
   split at h
   ·rename_i b he;have r:=RS hs u he
    split at h
    ·rename_i t;rw[dR (by simp[Region.wanted,hg,r,t])];exact .inl (Oper.wp_mono (λk w' ⟨fr',H',s,f⟩=>q fr' H' k w' s f) (Hw c hs h))
    ·rename_i t;rw[dK (by simp[Region.wanted,hg,r,t])];exact q _ _ _ _ h (hs.put (zx c))
   ·rename_i l he;have r:=Lo hs u he;rw[dK (by simp[Region.wanted,hg,r])];exact q _ _ _ _ h (hs.put (zx c))
   ·exact h.elim
  ·exact h.elim
def RF{E:List Nat}{ops:Array Oper}{K:Fr->dZ->Prop}{Q:Exit->Act->World->Prop}(b:Bu n ops=true)
  (j:∀fr' H' i w',K fr' H'->SR T n G0 F0 n0 w0 fr' H' i w'->Q .normal i w'):∀(l:List Oper) (k:Nat) (fr:Fr) (H:dZ) (a:Act) (w:World),l=ops.toList.drop k->SR T n G0 F0 n0 w0 fr H a w->iQ P T E ops l K fr H->wpOps P ops Q (List.range' k l.length) a w:=by
 intro l
 induction l with
 |nil=>
  intro k fr H a w c hs h;simp only[CD,List.range'_zero,wpOps];exact j _ _ _ _ h hs
 |cons o l ih=>
  intro k fr H a w c hs h
  have d:k<ops.toList.length:=by
   rcases vb k ops.toList.length with h'|h'
   ·exact h'
   ·rw[OH h'] at c;cases c
  have q:=Nz d;rw[q] at c;injection c with r s
  have hi:ops[k]?=some o:=by grind
  simp only[mN,aeT];rw[wpOps_cons];have f:sM n o=true:=Lq.1 b o (aac hi);refine GZ hi f hs h ?_
  grind
end
def h9(P:Program)(T:eO)(n:Nat)(c:Code)(Q:Exit->Fr->dZ->Prop)(fr:Fr)(H:dZ):Prop:=
 ∀G0 F0 n0 w0 a w,SR T n G0 F0 n0 w0 fr H a w->c.wp P (λe b w'=>∃fr' H',Q e fr' H'/\SR T n G0 F0 n0 w0 fr' H' b w') a w
def IM(K:Fr->dZ->Prop)(Q:Exit->Fr->dZ->Prop):Exit->Fr->dZ->Prop
 |.normal,fr,H=>K fr H|e,fr,H=>Q e fr H
def I6(id:Nat)(Q:Exit->Fr->dZ->Prop):Exit->Fr->dZ->Prop
 |.exit a,fr,H=>if a=id then Q .normal fr H else Q (.exit a) fr H|e,fr,H=>Q e fr H
section
variable{P:Program} {T:eO} {n:Nat} {Q Q':Exit->Fr->dZ->Prop} {fr:Fr} {H:dZ}
theorem h9.mono{c:Code}(h:h9 P T n c Q fr H)(b:∀e fr H,Q e fr H->Q' e fr H):h9 P T n c Q' fr H:=
 λG0 F0 n0 w0 a w hs=>wp_mono (h G0 F0 n0 w0 a w hs) λ_ _ _ ⟨fr',H',d,f⟩=>⟨fr',H',b _ _ _ d,f⟩
def h9.skip(h:Q .normal fr H):h9 P T n .skip Q fr H:=λ_ _ _ _ _ _ hs=>wp_skip ⟨_,_,h,hs⟩
def h9.label{l:Nat}(h:Q .normal fr H):h9 P T n (.label l) Q fr H:=λ_ _ _ _ _ _ hs=>wp_label ⟨_,_,h,hs⟩
def h9.scope{c:Code}(h:h9 P T n c (λe fr H=>(match e with|.goto _=>False|_=>True)/\Q e fr H) fr H):h9 P T n (.scope c) Q fr H:=
 λG0 F0 n0 w0 a w hs=>wp_scope_straight (wp_mono (h G0 F0 n0 w0 a w hs) λe _ _ ⟨fr',H',b,d⟩=>by
  cases e<;>first|exact b.1.elim|exact⟨fr',H',b.2,d⟩)
def h9.exit{id:Nat}(h:Q (.exit id) fr H):h9 P T n (.exit id) Q fr H:=λ_ _ _ _ _ _ hs=>wp_exit ⟨_,_,h,hs⟩
def h9.ret(h:Q .ret fr H):h9 P T n .ret Q fr H:=λ_ _ _ _ _ _ hs=>wp_ret ⟨_,_,h,hs⟩
def h9.seq{x y:Code}(h:h9 P T n x (IM (h9 P T n y Q) Q) fr H):h9 P T n (.seq x y) Q fr H:=by
 intro G0 F0 n0 w0 a w hs;refine wp_seq (wp_mono (h G0 F0 n0 w0 a w hs) ?_);rintro e d w' ⟨fr',H',b,c⟩
 cases e<;>first|exact b G0 F0 n0 w0 d w' c|exact⟨fr',H',b,c⟩
def h9.cond{c:Operand}{x y:Code}{t:Bool}(d:ev T fr c=.sc (.bool t))(f:jq c=true)(i:t=true->h9 P T n x Q fr H)(j:t=false->h9 P T n y Q fr H):h9 P T n (.cond c x y) Q fr H:=by
 intro G0 F0 n0 w0 a w hs;have b:=hs;obtain⟨ρ,F,R,hw,k⟩:=b;have h:=gH hw.env hw.iy c f;rw[d] at h;exact wp_cond_split (gl h) (λe=>i e G0 F0 n0 w0 a w hs) (λe=>j e G0 F0 n0 w0 a w hs)
def h9.block{id:Nat}{c:Code}(h:h9 P T n c (I6 id Q) fr H):h9 P T n (.block id c) Q fr H:=by
 intro G0 F0 n0 w0 a w hs;refine wp_block (wp_mono (h G0 F0 n0 w0 a w hs) ?_);rintro e i w' ⟨fr',H',b,d⟩;cases e with
 |exit f=>
  simp only[I6,Exit.inBlock] at b|-
  grind
 |_=>exact⟨fr',H',b,d⟩
def h9.region{id:Nat}{ops:Array Oper}(E:List Nat)(b:Bu n ops=true)(h:iQ P T E ops ops.toList (Q .normal) fr H):h9 P T n (.region id ops false) Q fr H:=by
 intro G0 F0 n0 w0 a w hs;refine wp_region ?_;have:=RF (Q:=λe c w'=>∃fr' H',Q e fr' H'/\SR T n G0 F0 n0 w0 fr' H' c w') b (λfr' H' c w' d f=>⟨fr',H',d,f⟩) ops.toList 0 fr H a w aaA hs h;rw[aam]
 grind
def ALp(P:Program)(T:eO)(n:Nat)(c:Code)(Q:Exit->Fr->dZ->Prop)(fr:Fr)(H:dZ):Prop:=
 ∀G0 F0 n0 w0 a w,SR T n G0 F0 n0 w0 fr H a w->∀(b:Frame) (k:List Item) (cs:List Frame),∃e d w',(∃fr' H',Q e fr' H'/\SR T n G0 F0 n0 w0 fr' H' d w')/\Arrives P (lone (b.at a (.code c::.inLoop c::k)) cs w) b k cs e d w'
def h9.loop{c:Code}(h:ALp P T n c Q fr H):h9 P T n (.loop c) Q fr H:=by
 intro G0 F0 n0 w0 a w hs b k cs;obtain⟨e,f,w',i,d⟩:=h G0 F0 n0 w0 a w hs b k cs;exact⟨e,f,w',i,.of_steps (.one step_loop) d⟩
theorem ALp.round{c:Code}(h:h9 P T n c (IM (ALp P T n c Q) Q) fr H):ALp P T n c Q fr H:=by
 intro G0 F0 n0 w0 a w hs b k cs;obtain⟨e,j,o,⟨fr',H',i,r⟩,d⟩:=h G0 F0 n0 w0 a w hs b (.inLoop c::k) cs
 have pass:∀e,e≠ .normal->Q e fr' H'->Arrives P (lone (b.at a (.code c::.inLoop c::k)) cs w) b (.inLoop c::k) cs e j o->∃e s w',(∃fr' H',Q e fr' H'/\SR T n G0 F0 n0 w0 fr' H' s w')/\Arrives P (lone (b.at a (.code c::.inLoop c::k)) cs w) b k cs e s w':=by
  intro e he t d;exact⟨e,j,o,⟨fr',H',t,r⟩,.pass (x:=.inLoop c) rfl (λ_ _=>.inl he) d⟩
 cases e with
 |normal=>
  have u:ALp P T n c Q fr' H':=i;obtain⟨v,y,A,q,f⟩:=u G0 F0 n0 w0 j o r b k cs;exact⟨v,y,A,q,.of_steps (Steps.trans d (.one step_inLoop)) f⟩
 |exit id=>exact pass _ aaA i d|goto l=>exact pass _ aaA i d|ret=>exact pass _ aaA i d|panic B=>exact pass _ aaA i d|outgrown=>exact pass _ aaA i d
end
def Qk(args:List AV):Fr:={env:=λt=>args.getD t (.tuple []),box:=λ_=>none,gen:=λ_=>0,qs:=λ_=>none,fo:=λ_=>0}
def KP(P:Program)(fr:Fr)(H:dZ):List ResultVar->Option (List AV)
 |[]=>some []|.tmp t::rest=>(KP P fr H rest).map ((fr.env t).norm:: ·)|.cell a t::rest=>(vz P fr H t (fr.env a)).bind λv=>(KP P fr H rest).map (v.norm:: ·)
def wS:List AV->AV
 |[x]=>x|l=>.tuple l
def BI(P:Program)(rs:List ResultVar)(Post:AV->dZ->Prop):Exit->Fr->dZ->Prop
 |.normal,fr,H|.ret,fr,H=>match KP P fr H rs with
  |some l=>Post (wS l) H|none=>False
 |_,_,_=>False
section
variable{P:Program} {T:eO} {n:Nat} {fr:Fr} {H:dZ} {a:Act} {w:World}
def YE(tmps:Array Value)(x:ResultVar):Sem Value:=
 match x with
 |.tmp t=>pure (tmps.getD t undef)|.cell a t=>do loadVar t (<-asAddr (tmps.getD a undef))
def ER{t:TypeId}{u v:Value}(h:(Instr.loadAt t u).run P w=.ok v w):(do loadVar t (<-asAddr u)).run P w=.ok v w:=by
 unfold Instr.loadAt at h;cases u with
 |pointer p=>
  cases p with
  |none=>simp[Instr.sureAddr,ia,stuck,Sem.run,Result.andThen] at h
  |some a=>exact h
 |_=>simp[Instr.sureAddr,ia,stuck,Sem.run,Result.andThen] at h
def XV{ρ:Maps}{F:kT}{R:Nat->oz}{B0:Nat}(h:WR T n B0 ρ F R fr H a w):∀(rs:List ResultVar) (l:List AV),KP P fr H rs=some l->∃vs:List Value,(rs.mapM (YE a.tmps)).run P w=.ok vs w/\hO F ρ.G ρ.n l vs:=by
 intro rs
 induction rs with
 |nil=>intro l b;simp[KP] at b;subst b;exact⟨[],rfl,.nil⟩
 |cons r rs ih=>
  intro l b;cases r with
  |tmp t=>
   simp only[KP,abK] at b;obtain⟨c,d,rfl⟩:=b;obtain⟨vs,f,i⟩:=ih c d;refine⟨a.tmps.getD t undef::vs,?_,.cons (h.env t).norm i⟩;simp only[abv,ia,YE,pH,kl,f]
  |cell j t=>
   simp only[KP,adS,abK] at b;obtain⟨v,o,c,d,rfl⟩:=b;obtain⟨vs,f,i⟩:=ih c d;obtain⟨u,hu,q⟩:=Md h o (h.env j);refine⟨u::vs,?_,.cons q.norm i⟩;have k:=ER hu;simp only[abv];rw[ia];have e:(YE a.tmps (.cell j t))=(do loadVar t (<-asAddr (a.tmps.getD j undef))):=rfl;rw[e,k,kl,ia,f];rfl
def OM{ρ:Maps}{F:kT}{R:Nat->oz}{B0:Nat}(h:WR T n B0 ρ F R fr H a w){fn:Func}{l:List AV}(c:KP P fr H fn.results.toList=some l):∃v,(results fn a.tmps).run P w=.ok v w/\gR F ρ.G ρ.n (wS l) v:=by
 obtain⟨vs,d,f⟩:=XV (P:=P) h _ _ c
 have e:results fn a.tmps=(do
   let vs<-fn.results.mapM (YE a.tmps)
   pure (if h:vs.size=1 then vs[0] else .tuple vs)):=rfl
 have hm:(fn.results.mapM (YE a.tmps)).run P w=.ok vs.toArray w:=by
  rw[aiJ,run_map,d];rfl
 rw[e,ia,hm,kl,pH];refine⟨_,rfl,?_⟩;cases f with
 |nil=>exact .tuple (vs:=[]) .nil|cons b i=>
  cases i with
  |nil=>exact b|cons j k=>
   have:=gR.tuple (.cons b (.cons j k));simpa[wS] using this
open Classical in
def fH.intro{f:FuncId}{fn:Func}{c:Code}{args:List AV}{Post:AV->dZ->Prop}(N:P.funcs[f]?=some fn)(O:fn.body=some c)(q:kW P f=true)(hlen:args.length<=fn.ntmps)
  (h:h9 P T fn.ntmps c (BI P fn.results.toList Post) (Qk args) H):fH P T f args H Post:=by
 refine⟨q,λG F w vs hg J=>?_⟩;refine calls_of_wp N O ?_;have s:args.length=vs.length:=J.length
 let ρ:Maps:={G:=G,n:=H.length,L:=λ_ _=>0,lg:=λ_=>0,A:=λ_ _=>none,ag:=λ_=>0}
 let R:Nat->oz:=λb=>if∃o,o<H.length/\G o=b then .lW else .free
 have hw:WR T fn.ntmps w.heap.size ρ F R (Qk args) H {tmps:=vs.toArray++Array.replicate (fn.ntmps-vs.toArray.size) undef,defers:=[]} w:=by
  refine⟨hg,?_,rfl,?_,rfl,λ_=>rfl,λ_=>rfl,?_,?_,?_,?_,?_,g_ _⟩
  ·simp only[Array.size_append,aeE,Array.size_replicate];omega
  ·intro t;show gI F ρ (args.getD t (.tuple [])) _;rcases vb t args.length with ht|ht
   ·obtain⟨v,x,y⟩:=J.get (po ht)
    have B:args.getD t (.tuple [])=args[t]:=by simp[ht]
    have C:(vs.toArray++Array.replicate (fn.ntmps-vs.toArray.size) undef).getD t undef=v:=by
     rw[OY,Array.getElem?_append_left (by simpa[<-s] using ht)];simp[x]
    rw[B,C];exact .p y
   ·have B:args.getD t (.tuple [])=.tuple []:=by simp[aeB ht]
    have C:(vs.toArray++Array.replicate (fn.ntmps-vs.toArray.size) undef).getD t undef=undef:=by
     rw[OY,Array.getElem?_append_right (by simpa[<-s] using ht),Array.getElem?_replicate]
     split<;>rfl
    rw[B,C];exact Hn
  ·intro d cs Q;cases Q
  ·intro k m S;cases S
  ·intro b j v x d;show(if∃o,o<H.length/\G o=b then oz.lW else .free)≠ .box d
   split<;>simp
  ·intro o D;show(if∃o',o'<H.length/\G o'=G o then oz.lW else .free)=.lW;rw[dR ⟨o,D,rfl⟩]
  ·intro b U;show(if∃o,o<H.length/\G o=b then oz.lW else .free)=.free;rw[dK];rintro⟨o,D,rfl⟩;obtain⟨X,V,_⟩:=hg.lW o _ (po D);have:=qp V;omega
 refine wp_mono (h G F H.length w _ w ⟨ρ,F,R,hw,Ext.refl⟩) ?_;rintro e K w' ⟨fr',H',a,ρ',F',Y,i,I⟩
 have key:∀{l:List AV},KP P fr' H' fn.results.toList=some l->Post (wS l) H'->K.defers=[]/\∃v,(results fn K.tmps).run P w'=.ok v w'/\∃r H' M G' F',Post r H'/\Ending.returned v=.returned M/\GW T G' F' H' w'/\gR F' G' H'.length r M/\Ext w.heap.size G F H.length w G' F' H'.length w':=by
  intro l u W;obtain⟨v,x,y⟩:=OM i u;rw[i.hn] at y;exact⟨i.defers,v,x,_,_,v,_,_,W,rfl,i.g,y,I⟩
 cases e with
 |normal=>
  simp only[BI] at a
  split at a
  ·rename_i l u;exact key u a
  ·exact a.elim
 |ret=>
  simp only[BI] at a
  split at a
  ·rename_i l u;exact key u a
  ·exact a.elim
 |_=>exact a.elim
end
end Go.ld
