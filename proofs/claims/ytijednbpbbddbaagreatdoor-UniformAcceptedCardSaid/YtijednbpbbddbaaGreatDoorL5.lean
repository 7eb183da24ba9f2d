/- Part of the proof of UniformExact, UniformAccepted: layer. -/
import Derived.Laws.IdiomStrings
import Derived.Scope
import Derived.Test.YtijednbpbbddbaaGreatDoorL4
set_option linter.all false
namespace Go.ns
open Go
def mX(P:Program)(f:FuncId):Bool:=
 match P.funcs[f]?with
 |some fn=>fn.body.isSome&&fn.name != "runtime.NumGoroutine"
 |none=>false
def fl(P:Program)(T:ec)(f:FuncId)(args:List AV)(H:dd)(Post:AV->dd->Prop):Prop:=
 mX P f=true/\∀(G:Nat->Nat) (F:nc) (w:World) (vs:List Value),GW T G F H w->iI F G H.length args vs->Calls P f vs.toArray w λe w'=>∃r H' v G' F',Post r H'/\e=.returned v/\GW T G' F' H' w'/\ic F' G' H'.length r v/\Ext w.heap.size G F H.length w G' F' H'.length w'
def dY(P:Program)(T:ec)(f:FuncId)(args:List AV)(H:dd)(r:AV)(H':dd):Prop:=fl P T f args H λb a=>b=r/\a=H'
def fl.mono{P:Program}{T:ec}{f:FuncId}{args:List AV}{H:dd}{Post Post':AV->dd->Prop}(h:fl P T f args H Post)(a:∀r H',Post r H'->Post' r H'):fl P T f args H Post':=
 ⟨h.1,λG F w vs hg b=>(h.2 G F w vs hg b).mono λ_ _ ⟨r,H',v,G',F',c,d⟩=>⟨r,H',v,G',F',a _ _ c,d⟩⟩
def dY.post{P:Program}{T:ec}{f:FuncId}{args:List AV}{H H':dd}{r:AV}{Post:AV->dd->Prop}(h:dY P T f args H r H')(a:Post r H'):fl P T f args H Post:=
 fl.mono h λe b ⟨c,d⟩=>by subst c;subst d;exact a
def qs(P:Program)(T:ec)(a:AV)(args:List AV)(H:dd)(Post:AV->dd->Prop):Prop:=
 match a with
 |.func (.func g) first cap=>fl P T g (first++args++cap) H Post
 |_=>False
section
variable{P:Program} {T:ec} {n:Nat} {G0:Nat->Nat} {F0:nc} {n0:Nat} {w0:World} {fr:Fr} {H:dd} {a:Act} {w:World}
open Classical in
def WR.called{ρ:Maps}{F:nc}{R:Nat->si}{B0:Nat}(h:WR T n B0 ρ F R fr H a w){G':Nat->Nat}{F':nc}{H':dd}{w':World}(hg:GW T G' F' H' w')
  (i:Ext w.heap.size ρ.G F H.length w G' F' H'.length w'):∃ρ' s,ρ'.G=G'/\ρ'.n=H'.length/\WR T n B0 ρ' F' s fr H' a w':=by
 let ρ':Maps:={ρ with G:=G',n:=H'.length}
 let s:Nat->si:=λb=>if∃o,H.length<=o/\o<H'.length/\G' o=b then .oB else R b
 have x:Kk F F' ρ.G G' ρ.n H'.length:=by
  refine⟨λb o v D=>?_,by rw[h.hn];exact i.len,λo q=>i.hG o (by rw[<-h.hn];exact q)⟩;exact i.mF b o v (h.adn D) D
 have t:zc F F' ρ ρ':=⟨x,λ_=>ig _,λ_ _ _=>rfl,λ_=>ig _,λ_ _ _=>rfl⟩
 have f:∀b,b<w.heap.size->s b=R b:=by
  intro b hb;show(if∃o,H.length<=o/\o<H'.length/\G' o=b then si.oB else R b)=R b;rw[cI];rintro⟨o,h1,p,rfl⟩;have:=i.QE o h1 p;omega
 have l:∀b,R b≠ .oB->∀o,o<H.length->ρ.G o≠b:=by
  rintro b hb o q rfl;exact hb (h.qa o q)
 refine⟨ρ',s,rfl,rfl,⟨hg,h.size,h.defers,h.env.grow t,rfl,h.lg,h.ag,?_,?_,?_,?_,?_,CJ h.tU i.size⟩⟩
 ·intro d cs I;obtain⟨h1,p,y,vs,ty,r,z⟩:=h.box d cs I;have g:=s8 r;exact⟨h1,by rw[f _ g];exact p,y,vs,ty,(i.heap _ g (l _ (by rw[p];simp))).trans r,z.mono λ_ _ _ h=>h.grow t⟩
 ·intro k m J b c sz K;obtain⟨h1,p,y,A,⟨vs,ty,r,z⟩,L⟩:=h.tok k m J b c sz K;have g:=s8 r;refine⟨h1,by rw[f _ g];exact p,y,A,⟨vs,ty,(i.heap _ g (l _ (by rw[p];simp))).trans r,z⟩,λj M=>?_⟩;rw[i.hF b j g (l _ (by rw[p];simp))];exact L j M
 ·intro b j v E;rcases tv b w.heap.size with hb|hb
  ·rw[f b hb]
   by_cases u:∃o,o<H.length/\ρ.G o=b
   ·obtain⟨o,q,rfl⟩:=u;rw[h.qa o q];simp
   ·rw[i.hF b j hb λo q e=>u ⟨o,q,e⟩] at E;exact h.s5 b j v E
  ·intro d;show(if∃o,H.length<=o/\o<H'.length/\G' o=b then si.oB else R b)≠ .box d
   split
   ·simp
   ·rw[h.ny b hb];simp
 ·intro o q;rcases tv o H.length with h1|h1
  ·have B:=h.qa o h1
   have g:ρ.G o<w.heap.size:=by
    rcases tv (ρ.G o) w.heap.size with h'|h'
    ·exact h'
    ·rw[h.ny _ h'] at B;cases B
   show s (G' o)=.oB;rw[i.hG o h1,f _ g];exact B
  ·show(if∃o',H.length<=o'/\o'<H'.length/\G' o'=G' o then si.oB else R (G' o))=.oB;rw[cK ⟨o,h1,q,rfl⟩]
 ·intro b hb;show(if∃o,H.length<=o/\o<H'.length/\G' o=b then si.oB else R b)=.free;rw[cI]
  ·exact h.ny b (CJ i.size hb)
  ·rintro⟨o,h1,p,rfl⟩;have C:H'[o]?=some H'[o]:=nw p;obtain⟨N,r,_⟩:=hg.oB o _ C;have:=s8 r;omega
end
def Nb(E:List Nat)(dst:Option Nat)(v:AV)(K:Fr->dd->Prop)(fr:Fr)(H:dd):Prop:=
 if dst.any E.contains then(match v with|.slice _ l=>K (fr.put dst (.xx H.length 0 l.length l.length)) (H++[l.flatMap AV.cells])|_=>False)else K (fr.put dst v) H
def Ri(P:Program)(dst:Option Nat)(s d:TypeId)(x:AV)(K:Fr->dd->Prop)(fr:Fr)(H:dd):Prop:=
 match ON P s d x with
 |some v=>K (fr.put dst v) H|none=>match P.underlying s,P.underlying d,x with
  |some .string,some (.slice e),.sc (.string y)=>P.underlying e=some (.int .u8)/\y.size<=mw/\∀cap k,y.size<=cap->K (fr.put dst (.xx H.length 0 y.size cap)) (H++[s7 y++BZ k])|_,_,_=>False
def uZ(P:Program)(T:ec)(E:List Nat)(o:Oper)(K:Fr->dd->Prop)(fr:Fr)(H:dd):Prop:=
 match o.op with
 |.alloc t=>match hE P t with
  |some z=>nq E o.dst z K fr H|none=>False
 |.box _ x=>e9 (ev T fr x)=true/\nq E o.dst (ev T fr x).cells K fr H|.load t x=>match yp P fr H t (ev T fr x)with
  |some v=>K (fr.put o.dst v) H|none=>False
 |.store t x y=>o.dst=none/\o6 P t (ev T fr x) (ev T fr y) K fr H|.buildSlice t n ps=>match qx P t n (ps.toList.map λp=>(p.1,ev T fr p.2))with
  |some v=>Nb E o.dst v K fr H|none=>False
 |.makeSlice t l c=>match uc P t (ev T fr l) (ev T fr c)with
  |some v=>K (fr.put o.dst v) H|none=>False
 |.convert s d x=>Ri P o.dst s d (ev T fr x) K fr H|.call c=>match c.callee with
  |.builtin .append=>(qG P T c o.dst K fr H\/Ix P T c o.dst K fr H)\/IB P T c o.dst K fr H\/sW P T c o.dst K fr H|.builtin _=>match xa P T fr c with
   |some v=>K (fr.put o.dst v) H|none=>False
  |.value f=>qs P T (ev T fr f) (c.args.toList.map λx=>(ev T fr x).norm) H λr H'=>K (fr.put o.dst r) H'|.invoke _ _=>False
 |.makeMap _ none=>NM o.dst K fr H|.mapUpdate t m k x=>o.dst=none/\wE P t (ev T fr m) (ev T fr k) (ev T fr x) K fr H|.insert t m k x=>o.dst=none/\wE P t (ev T fr m) (ev T fr k) (ev T fr x) K fr H|.lookup t x i ok=>match zo P H t (ev T fr x) (ev T fr i) ok with
  |some v=>K (fr.put o.dst v) H|none=>False
 |.range t x=>MI P t (ev T fr x) o.dst K fr H|.next it false=>OR (ev T fr it) o.dst K fr H|.entry it=>match JC (ev T fr it) H with
  |some v=>K (fr.put o.dst v) H|none=>False
 |_=>match zs P T fr o with
  |some v=>K (fr.put o.dst v) H|none=>False
def w4(n:Nat)(o:Oper):Bool:=o.dst.all (λd=>decide (d<n))&&o.op.operands.all lG
def C6{n:Nat}{o:Oper}(h:w4 n o=true):∀d,o.dst=some d->d<n:=by
 intro d a;simp only[w4,ez] at h;rw[a] at h;simpa using h.1
def QX{n:Nat}{o:Oper}(h:w4 n o=true):o.op.operands.all lG=true:=by
 simp only[w4,ez] at h;exact h.2
section
variable{P:Program} {T:ec} {n:Nat} {G0:Nat->Nat} {F0:nc} {n0:Nat} {w0:World} {fr:Fr} {H:dd} {a:Act} {w:World}
def PJ(w:World){f:FuncId}(h:mX P f=true)(args:Array Value):(callFunc f args).run P w=.ok (.enter f args) w:=by
 unfold mX at h
 split at h
 ·rename_i fn b;simp only[ez,bne_iff_ne,ne_eq] at h;simp[callFunc,program,Sem.run,b,h.2];intro a;rw[a] at h;simp at h
 ·cases h
def N2{ρ:Maps}{F:nc}{R:Nat->si}(h:WR T n w0.heap.size ρ F R fr H a w)(m:Ext w0.heap.size G0 F0 n0 w0 ρ.G F H.length w)(s d:TypeId){e:TypeId}(y:ByteArray)(hs:P.underlying s=some .string)(p:P.underlying d=some (.slice e))
  (he:P.underlying e=some (.int .u8)) (f:y.size<=mw) {dst:Option Nat} (g:∀d,dst=some d->d<n):∃w',(convert s d (.string y)).run P w=.ok (.slice (some ⟨w.heap.size,0,none⟩) y.size (grownCap w y.size 0 e)) w'/\SR T n G0 F0 n0 w0 (fr.put dst (.xx H.length 0 y.size (grownCap w y.size 0 e))) (H++[s7 y++BZ (grownCap w y.size 0 e-y.size)]) (a.put dst (.slice (some ⟨w.heap.size,0,none⟩) y.size (grownCap w y.size 0 e))) w':=by
 have i:=grownCap_ge w y.size 0 e;have hle:=grownCap_le_maxLen w y.size 0 e (by have:y.size<=1099511627776:=f;simp only[maxLen];omega);refine⟨_,run_bytes_of_string w s d e y hs p he,wU h.drew m.drew (.cells (.inr (ig _)) ?_ ?_) g ?_⟩
 ·have q:(bytesRow y (grownCap w y.size 0 e)).toList=Lib.strCells y++List.replicate (grownCap w y.size 0 e-y.size) (.int .u8 0):=by
   simp[bytesRow,Lib.strCells]
  rw[q];refine .append ?_ ?_
  ·have r:=(Ap (F:=F) (G:=ρ.G) (k:=ρ.n) (Lib.strCells y) (λv t=>by obtain⟨b,_,rfl⟩:=nU.1 t;rfl)).yS
   have u:(Lib.strCells y).map AV.sc=s7 y:=by simp[Lib.strCells,s7]
   rwa [u] at r
  ·generalize grownCap w y.size 0 e-y.size=k
   induction k with
   |zero=>exact .nil|succ k x=>
    show iU _ (List.replicate (k+1) AV.undef) (List.replicate (k+1) _);rw[Xx,Xx];exact .cons (.undef rfl) x
 ·intro c hc;rcases rS.1 hc with hc|hc
  ·obtain⟨b,_,rfl⟩:=nU.1 hc;rfl
  ·exact Cj _ c hc
 ·intro ρ' hG j l;have:=ic.xx (F:=F) (G:=ρ'.G) (n:=ρ'.n) (o:=H.length) (off:=0) (len:=y.size) (cap:=grownCap w y.size 0 e) (by rw[l];omega) i hle;rw[j] at this;exact this
def Kv{E:List Nat}{o:Oper}{K:Fr->dd->Prop}{Q:Exit->Act->World->Prop}(U:w4 n o=true)(hs:SR T n G0 F0 n0 w0 fr H a w)(h:uZ P T E o K fr H):o.wp P a w (λZ w'=>∃fr' H',K fr' H'/\SR T n G0 F0 n0 w0 fr' H' Z w') Q:=by
 obtain⟨ρ,F,R,hw,A⟩:=hs;have D:=C6 U;have N:=QX U
 have M:∀{v:AV},(∃u,(execOp a.eval o).run P w=.ok (.value u) w/\h_ F ρ v u)->K (fr.put o.dst v) H->o.wp P a w (λZ w'=>∃fr' H',K fr' H'/\SR T n G0 F0 n0 w0 fr' H' Z w') Q:=by
  rintro v ⟨u,O,hu⟩ J;unfold Oper.wp;rw[O];exact⟨_,_,J,ρ,F,R,hw.put D hu,A⟩
 have q:∀{s:Sem Value} {u:Value} {w':World},execOp a.eval o=(do pure (.value (<-s)))->s.run P w=.ok u w'->(∃fr' H',K fr' H'/\SR T n G0 F0 n0 w0 fr' H' (a.put o.dst u) w')->o.wp P a w (λZ w'=>∃fr' H',K fr' H'/\SR T n G0 F0 n0 w0 fr' H' Z w') Q:=by
  intro s u w' he O J;unfold Oper.wp;rw[he,jn,O];exact J
 obtain⟨dst,op,type,pos,after,guard⟩:=o;simp only at N D;have j:∀x∈op.operands,lG x=true:=λx A=>OF.1 N x A;unfold uZ at h;simp only at h
 split at h
 ·--alloc
  rename_i t
  split at h
  ·rename_i cells ai;obtain⟨z,hz,ak,an,rfl⟩:=O0 ai;have ao:=h
   have aq:∀vs,z≠ .tuple vs:=by rintro vs rfl;simp[ofValue,e9] at an
   obtain⟨aa,ar⟩:=Gs ak aq;refine q (s:=Instr.alloc t true (.tuple #[])) rfl (Uc w hz) ?_;refine KM hw A ao D t ?_ ?_
   ·rw[aa];exact(uT F ρ.G ρ.n _ ar).yS.mono λ_ _ _ h=>.p h
   ·rw[aa];intro c W;obtain⟨u,_,rfl⟩:=nU.1 W;exact CY u
  ·exact h.elim
 ·--box
  rename_i t x;obtain⟨h1,h2⟩:=h;have I:=hV hw.env hw.jQ x (j x (by simp[Op.operands]));exact q (s:=Instr.box t (a.eval x)) rfl rfl (KM hw A h2 D t (I.cells (kE h1)) (I.wm (kE h1)))
 ·--load
  rename_i t x
  split at h
  ·rename_i v C;have I:=hV hw.env hw.jQ x (j x (by simp[Op.operands]));obtain⟨u,hu,O⟩:=OX hw C I;exact q (s:=Instr.loadAt t (a.eval x)) rfl hu ⟨_,_,h,ρ,F,R,hw.put D O,A⟩
  ·exact h.elim
 ·--store
  rename_i t x y;obtain⟨L,h⟩:=h;subst L;have I:=hV hw.env hw.jQ x (j x (by simp[Op.operands]));have aw:=hV hw.env hw.jQ y (j y (by simp[Op.operands]));obtain⟨fr',H',w',b,J,hs⟩:=RZ hw A h I aw;unfold Oper.wp;have e:execOp a.eval {dst:=none,op:=.store t x y,type:=type,pos:=pos,after:=after,guard:=guard}=(do Instr.storeAt t (a.eval x) (a.eval y);pure .skip):=rfl;rw[e,jn,b];exact⟨fr',H',J,hs⟩
 ·--buildSlice
  rename_i t k ps
  split at h
  ·rename_i v C;have hp:=ND hw.env hw.jQ ps.toList λp hp=>j p.2 (by simp[Op.operands];exact⟨p.1,by simpa using hp⟩)
   have e:(ps.toList.map λp=>(p.1,a.eval p.2)).toArray=ps.map λp=>(p.1,a.eval p.2):=by rw[<-Rp,TH]
   unfold Nb at h
   split at h
   ·split at h
    ·obtain⟨u,w',b,hs⟩:=IY hw A C hp D;rw[e] at b;unfold Oper.wp;simp only[execOp,jn,b,lL];exact⟨_,_,h,hs⟩
    ·exact h.elim
   ·obtain⟨u,w',b,hs⟩:=Ku hw A C hp D;rw[e] at b;unfold Oper.wp;simp only[execOp,jn,b,lL];exact⟨_,_,h,hs⟩
  ·exact h.elim
 ·--makeSlice
  rename_i t l c
  split at h
  ·rename_i v C;obtain⟨u,w',b,hs⟩:=Lp hw A C (hV hw.env hw.jQ l (j l (by simp[Op.operands]))) (hV hw.env hw.jQ c (j c (by simp[Op.operands]))) D;exact q (s:=Instr.makeSlice t (a.eval l) (a.eval c)) rfl b ⟨_,_,h,hs⟩
  ·exact h.elim
 ·--convert
  rename_i t d x;have I:=hV hw.env hw.jQ x (j x (by simp[Op.operands]));unfold Ri at h
  split at h
  ·rename_i v C;refine M (v:=v) (HK w hw.g.JO hw.env hw.jQ N ?_) h;simp only[zs];exact C
  ·split at h
   ·rename_i e y hs ax ay;obtain⟨he,ab,h⟩:=h;rw[ay] at I;have C:=gK I;obtain⟨w',b,az⟩:=N2 hw A t d y hs ax he ab D;refine q (s:=convert t d (a.eval x)) rfl (by rw[C];exact b) ⟨_,_,h _ _ (by simpa using grownCap_ge w y.size 0 e),az⟩
   ·exact h.elim
 ·--call
  rename_i c;obtain⟨callee,args,argTypes⟩:=c;have B:∀x∈args.toList,lG x=true:=λx A=>j x (by simp[Op.operands,Call.operands,Bn.1 A])
  split at h
  ·--append
   rename_i W;simp only at W;subst W;obtain⟨u,w',fr',H',b,J,hs⟩:=h.elim (λh=>h.elim (λh=>PZ (ty:=type) hw A h D B) (λh=>OD (ty:=type) hw A h D B)) (λh=>h.elim (λh=>Oz (ty:=type) hw A h D B) (λh=>NU (ty:=type) hw A h D B));unfold Oper.wp execOp;simp only[resolve,invoke,builtin,jn,sN,lL];rw[b];exact⟨fr',H',J,hs⟩
  ·--ad builtin
   split at h
   ·rename_i v C;refine M (v:=v) (HK w hw.g.JO hw.env hw.jQ N ?_) h;simp only[zs];exact C
   ·exact h.elim
  ·--a V value
   rename_i f W;simp only at W;subst W;unfold qs at h;have ae:=hV hw.env hw.jQ f (j f (by simp[Op.operands,Call.operands]))
   split at h
   ·rename_i g first cap hf
    rw[hf] at ae;obtain⟨vf,vc,C,aA,aB⟩:=FO ae;obtain⟨af,X⟩:=h;have S:=MH hw.env hw.jQ args.toList B
    have Y:iI F ρ.G H.length (first++(args.toList.map λx=>(ev T fr x).norm)++cap) (vf++args.toList.map a.eval++vc):=by
     rw[<-hw.hn];exact((iI.so aA).append S).append (.so aB)
    have hC:=X ρ.G F w _ hw.g Y;unfold Oper.wp
    have e:(execOp a.eval {dst:=dst,op:=.call {callee:=.value f,args:=args,argTypes:=argTypes},type:=type,pos:=pos,after:=after,guard:=guard}).run P w=.ok (.enter g (vf++args.toList.map a.eval++vc).toArray) w:=by
     simp only[execOp,resolve,jn];rw[C];simp only[Deferred.ofValue,sN,lL,invoke];rw[PJ w af]
     congr 2
     apply H3.1;simp
    rw[e];show Calls P g _ w _;refine hC.mono ?_;rintro e' w' ⟨r,H',v,G',F',J,rfl,aC,aD,ah⟩;obtain⟨ρ',R',hG,aE,aF⟩:=hw.called aC ah;refine⟨_,_,J,ρ',F',R',aF.put D (.p ?_),?_⟩
    ·rw[hG,aE];exact aD
    ·rw[hG];exact A.trans (ah.mono hw.tU)
   ·exact h.elim
  ·exact h.elim
 ·--makeMap
  obtain⟨v,w',b,hs⟩:=Ou (P:=P) hw A D;exact q (s:=Instr.makeMap _ none) rfl b ⟨_,_,h,hs⟩
 ·--mapUpdate
  rename_i t m k x;obtain⟨L,h⟩:=h;subst L;obtain⟨fr',H',w',b,J,hs⟩:=Ik hw A h (hV hw.env hw.jQ m (j m (by simp[Op.operands]))) (hV hw.env hw.jQ k (j k (by simp[Op.operands]))) (hV hw.env hw.jQ x (j x (by simp[Op.operands])));unfold Oper.wp;have e:execOp a.eval {dst:=none,op:=.mapUpdate t m k x,type:=type,pos:=pos,after:=after,guard:=guard}=(do Instr.mapUpdate t (a.eval m) (a.eval k) (a.eval x);pure .skip):=rfl;rw[e,jn,b];exact⟨fr',H',J,hs⟩
 ·--insert
  rename_i t m k x;obtain⟨L,h⟩:=h;subst L;obtain⟨fr',H',w',b,J,hs⟩:=Ik hw A h (hV hw.env hw.jQ m (j m (by simp[Op.operands]))) (hV hw.env hw.jQ k (j k (by simp[Op.operands]))) (hV hw.env hw.jQ x (j x (by simp[Op.operands])));unfold Oper.wp;have e:execOp a.eval {dst:=none,op:=.insert t m k x,type:=type,pos:=pos,after:=after,guard:=guard}=(do Instr.mapUpdate t (a.eval m) (a.eval k) (a.eval x);pure .skip):=rfl;rw[e,jn,b];exact⟨fr',H',J,hs⟩
 ·--lookup
  rename_i t x i ok
  split at h
  ·rename_i v C;obtain⟨u,hu,O⟩:=RC hw C (hV hw.env hw.jQ x (j x (by simp[Op.operands]))) (hV hw.env hw.jQ i (j i (by simp[Op.operands])));exact q (s:=Instr.lookup t (a.eval x) (a.eval i) ok) rfl hu ⟨_,_,h,ρ,F,R,hw.put D O,A⟩
  ·exact h.elim
 ·--range
  rename_i t x;obtain⟨v,w',fr',H',b,J,hs⟩:=RI hw A h D (hV hw.env hw.jQ x (j x (by simp[Op.operands])));exact q (s:=Instr.range t (a.eval x)) rfl b ⟨_,_,J,hs⟩
 ·--next
  rename_i it;obtain⟨v,w',fr',H',b,J,hs⟩:=TS hw A type h D (hV hw.env hw.jQ it (j it (by simp[Op.operands])));exact q (s:=Instr.next (a.eval it) false type) rfl b ⟨_,_,J,hs⟩
 ·--entry
  rename_i it
  split at h
  ·rename_i v C;obtain⟨u,hu,O⟩:=TJ (P:=P) hw C (hV hw.env hw.jQ it (j it (by simp[Op.operands])));exact q (s:=Instr.entry (a.eval it)) rfl hu ⟨_,_,h,ρ,F,R,hw.put D O,A⟩
  ·exact h.elim
 ·--all others only compute
  split at h
  ·rename_i v C;exact M (v:=v) (HK w hw.g.JO hw.env hw.jQ N C) h
  ·exact h.elim
end
end Go.ns
namespace Go.ns
open Go
def Ib(P:Program)(T:ec)(E:List Nat)(ops:Array Oper)(o:Oper)(K:Fr->dd->Prop)(fr:Fr)(H:dd):Prop:=
 match o.guard with
 |none=>uZ P T E o K fr H|some (j,want)=>
  match(ops[j]?).bind (·.dst)with
  |some d=>
   match fr.env d with
   |.sc (.bool b)=>if b=want then uZ P T E o K fr H else K (fr.put o.dst (.tuple [])) H|.tuple _=>K (fr.put o.dst (.tuple [])) H|_=>False
  |none=>False
def jH(P:Program)(T:ec)(E:List Nat)(ops:Array Oper):List Oper->(Fr->dd->Prop)->Fr->dd->Prop
 |[],K,fr,H=>K fr H|o::rest,K,fr,H=>Ib P T E ops o (λfr H=>jH P T E ops rest K fr H) fr H
def DI(n:Nat)(ops:Array Oper):Bool:=ops.all (w4 n)
section
variable{P:Program} {T:ec} {n:Nat} {G0:Nat->Nat} {F0:nc} {n0:Nat} {w0:World} {fr:Fr} {H:dd} {a:Act} {w:World}
def KI{F:nc}{ρ:Maps}:h_ F ρ (.tuple []) undef:=.p (.tuple (vs:=[]) .nil)
def SR.put(hs:SR T n G0 F0 n0 w0 fr H a w){d:Option Nat}(c:∀b,d=some b->b<n):SR T n G0 F0 n0 w0 (fr.put d (.tuple [])) H (a.put d undef) w:=by
 obtain⟨ρ,F,R,hw,e⟩:=hs;exact⟨ρ,F,R,hw.put c KI,e⟩
def TZ(hs:SR T n G0 F0 n0 w0 fr H a w){ops:Array Oper}{j d:Nat}{b:Bool}(f:(ops[j]?).bind (·.dst)=some d)(he:fr.env d=.sc (.bool b)):yielded ops a.tmps j=some b:=by
 obtain⟨ρ,F,R,hw,g⟩:=hs;have h:=hw.env d;rw[he] at h;have c:=gK h;unfold yielded;rw[f];simp only[aaA];cases e:a.tmps[d]?with
 |none=>rw[PC,e] at c;cases c
 |some v=>
  rw[PC,e] at c;simp at c;subst c;rfl
def N7(hs:SR T n G0 F0 n0 w0 fr H a w){ops:Array Oper}{j d:Nat}{l:List AV}(b:(ops[j]?).bind (·.dst)=some d)(he:fr.env d=.tuple l):yielded ops a.tmps j=none:=by
 obtain⟨ρ,F,R,hw,e⟩:=hs;have h:=hw.env d;rw[he] at h;unfold yielded;rw[b];simp only[aaA];cases c:a.tmps[d]?with
 |none=>rfl|some v=>
  rw[PC,c] at h;simp at h;cases h with
  |cell h=>cases h with|p h=>cases h;rfl
def KG{E:List Nat}{ops:Array Oper}{i:Nat}{o:Oper}{K:Fr->dd->Prop}{Q:Exit->Act->World->Prop}(hi:ops[i]?=some o)(c:w4 n o=true)(hs:SR T n G0 F0 n0 w0 fr H a w)
  (h:Ib P T E ops o K fr H) {N:Act->World->Prop} (g:∀fr' H' f w',K fr' H'->SR T n G0 F0 n0 w0 fr' H' f w'->N f w'):wpOp P ops Q i N a w:=by
 unfold wpOp;simp only[hi];unfold Ib at h
 split at h
 ·rename_i hg;rw[cK (by simp[Region.wanted,hg])];exact .inl (Oper.wp_mono (λf w' ⟨fr',H',k,e⟩=>g fr' H' f w' k e) (Kv c hs h))
 ·rename_i j want hg
  split at h
  ·rename_i d p
   split at h
   ·rename_i b he;have hy:=TZ hs p he
    split at h
    ·rename_i m;rw[cK (by simp[Region.wanted,hg,hy,m])];exact .inl (Oper.wp_mono (λf w' ⟨fr',H',k,e⟩=>g fr' H' f w' k e) (Kv c hs h))
    ·rename_i m;rw[cI (by simp[Region.wanted,hg,hy,m])];exact g _ _ _ _ h (hs.put (C6 c))
   ·rename_i l he;have hy:=N7 hs p he;rw[cI (by simp[Region.wanted,hg,hy])];exact g _ _ _ _ h (hs.put (C6 c))
   ·exact h.elim
  ·exact h.elim
def SJ{E:List Nat}{ops:Array Oper}{K:Fr->dd->Prop}{Q:Exit->Act->World->Prop}(b:DI n ops=true)
  (i:∀fr' H' e w',K fr' H'->SR T n G0 F0 n0 w0 fr' H' e w'->Q .normal e w'):∀(l:List Oper) (k:Nat) (fr:Fr) (H:dd) (a:Act) (w:World),l=ops.toList.drop k->SR T n G0 F0 n0 w0 fr H a w->jH P T E ops l K fr H->wpOps P ops Q (List.range' k l.length) a w:=by
 intro l
 induction l with
 |nil=>
  intro k fr H a w c hs h;simp only[tY,List.range'_zero,wpOps];exact i _ _ _ _ h hs
 |cons o l j=>
  intro k fr H a w c hs h
  have d:k<ops.toList.length:=by
   rcases tv k ops.toList.length with h'|h'
   ·exact h'
   ·rw[H9 h'] at c;cases c
  have m:=L2 d;rw[m] at c;injection c with p q
  have hi:ops[k]?=some o:=by
   rw[p];simp only[abn];exact U7 (by simpa using d)
  simp only[hW,YH];rw[wpOps_cons];have f:w4 n o=true:=OF.1 b o (UO hi);refine KG hi f hs h ?_;intro fr' H' e w' r g;exact j (k+1) fr' H' e w' q g r
end
def gM(P:Program)(T:ec)(n:Nat)(c:Code)(Q:Exit->Fr->dd->Prop)(fr:Fr)(H:dd):Prop:=
 ∀G0 F0 n0 w0 a w,SR T n G0 F0 n0 w0 fr H a w->c.wp P (λe b w'=>∃fr' H',Q e fr' H'/\SR T n G0 F0 n0 w0 fr' H' b w') a w
def H7(K:Fr->dd->Prop)(Q:Exit->Fr->dd->Prop):Exit->Fr->dd->Prop
 |.normal,fr,H=>K fr H|e,fr,H=>Q e fr H
def L7(id:Nat)(Q:Exit->Fr->dd->Prop):Exit->Fr->dd->Prop
 |.exit a,fr,H=>if a=id then Q .normal fr H else Q (.exit a) fr H|e,fr,H=>Q e fr H
section
variable{P:Program} {T:ec} {n:Nat} {Q Q':Exit->Fr->dd->Prop} {fr:Fr} {H:dd}
def gM.mono{c:Code}(h:gM P T n c Q fr H)(b:∀e fr H,Q e fr H->Q' e fr H):gM P T n c Q' fr H:=
 λG0 F0 n0 w0 a w hs=>wp_mono (h G0 F0 n0 w0 a w hs) λ_ _ _ ⟨fr',H',d,f⟩=>⟨fr',H',b _ _ _ d,f⟩
def gM.skip(h:Q .normal fr H):gM P T n .skip Q fr H:=λ_ _ _ _ _ _ hs=>wp_skip ⟨_,_,h,hs⟩
def gM.label{l:Nat}(h:Q .normal fr H):gM P T n (.label l) Q fr H:=λ_ _ _ _ _ _ hs=>wp_label ⟨_,_,h,hs⟩
def gM.scope{c:Code}(h:gM P T n c (λe fr H=>(match e with|.goto _=>False|_=>True)/\Q e fr H) fr H):gM P T n (.scope c) Q fr H:=
 λG0 F0 n0 w0 a w hs=>wp_scope_straight (wp_mono (h G0 F0 n0 w0 a w hs) λe _ _ ⟨fr',H',b,d⟩=>by
  cases e<;>first|exact b.1.elim|exact⟨fr',H',b.2,d⟩)
def gM.exit{id:Nat}(h:Q (.exit id) fr H):gM P T n (.exit id) Q fr H:=λ_ _ _ _ _ _ hs=>wp_exit ⟨_,_,h,hs⟩
def gM.ret(h:Q .ret fr H):gM P T n .ret Q fr H:=λ_ _ _ _ _ _ hs=>wp_ret ⟨_,_,h,hs⟩
def gM.seq{x y:Code}(h:gM P T n x (H7 (gM P T n y Q) Q) fr H):gM P T n (.seq x y) Q fr H:=by
 intro G0 F0 n0 w0 a w hs;refine wp_seq (wp_mono (h G0 F0 n0 w0 a w hs) ?_);rintro e d w' ⟨fr',H',b,c⟩
 cases e<;>first|exact b G0 F0 n0 w0 d w' c|exact⟨fr',H',b,c⟩
def gM.cond{c:Operand}{x y:Code}{t:Bool}(d:ev T fr c=.sc (.bool t))(f:lG c=true)(g:t=true->gM P T n x Q fr H)(i:t=false->gM P T n y Q fr H):gM P T n (.cond c x y) Q fr H:=by
 intro G0 F0 n0 w0 a w hs;have b:=hs;obtain⟨ρ,F,R,hw,j⟩:=b;have h:=hV hw.env hw.jQ c f;rw[d] at h;exact wp_cond_split (gK h) (λe=>g e G0 F0 n0 w0 a w hs) (λe=>i e G0 F0 n0 w0 a w hs)
def gM.block{id:Nat}{c:Code}(h:gM P T n c (L7 id Q) fr H):gM P T n (.block id c) Q fr H:=by
 intro G0 F0 n0 w0 a w hs;refine wp_block (wp_mono (h G0 F0 n0 w0 a w hs) ?_);rintro e g w' ⟨fr',H',b,d⟩;cases e with
 |exit f=>
  simp only[L7,Exit.inBlock] at b|-
  split at b
  ·rename_i he;rw[cK he];exact⟨fr',H',b,d⟩
  ·rename_i he;rw[cI he];exact⟨fr',H',b,d⟩
 |_=>exact⟨fr',H',b,d⟩
def gM.region{id:Nat}{ops:Array Oper}(E:List Nat)(b:DI n ops=true)(h:jH P T E ops ops.toList (Q .normal) fr H):gM P T n (.region id ops false) Q fr H:=by
 intro G0 F0 n0 w0 a w hs;refine wp_region ?_;have:=SJ (Q:=λe c w'=>∃fr' H',Q e fr' H'/\SR T n G0 F0 n0 w0 fr' H' c w') b (λfr' H' c w' d f=>⟨fr',H',d,f⟩) ops.toList 0 fr H a w aaB hs h;rw[Wl];simpa using this
def ALp(P:Program)(T:ec)(n:Nat)(c:Code)(Q:Exit->Fr->dd->Prop)(fr:Fr)(H:dd):Prop:=
 ∀G0 F0 n0 w0 a w,SR T n G0 F0 n0 w0 fr H a w->∀(b:Frame) (k:List Item) (cs:List Frame),∃e d w',(∃fr' H',Q e fr' H'/\SR T n G0 F0 n0 w0 fr' H' d w')/\Arrives P (lone (b.at a (.code c::.inLoop c::k)) cs w) b k cs e d w'
def gM.loop{c:Code}(h:ALp P T n c Q fr H):gM P T n (.loop c) Q fr H:=by
 intro G0 F0 n0 w0 a w hs b k cs;obtain⟨e,f,w',g,d⟩:=h G0 F0 n0 w0 a w hs b k cs;exact⟨e,f,w',g,.of_steps (.one step_loop) d⟩
def ALp.round{c:Code}(h:gM P T n c (H7 (ALp P T n c Q) Q) fr H):ALp P T n c Q fr H:=by
 intro G0 F0 n0 w0 a w hs b k cs;obtain⟨e,i,j,⟨fr',H',g,o⟩,d⟩:=h G0 F0 n0 w0 a w hs b (.inLoop c::k) cs
 have pass:∀e,e≠ .normal->Q e fr' H'->Arrives P (lone (b.at a (.code c::.inLoop c::k)) cs w) b (.inLoop c::k) cs e i j->∃e p w',(∃fr' H',Q e fr' H'/\SR T n G0 F0 n0 w0 fr' H' p w')/\Arrives P (lone (b.at a (.code c::.inLoop c::k)) cs w) b k cs e p w':=by
  intro e he q d;exact⟨e,i,j,⟨fr',H',q,o⟩,.pass (x:=.inLoop c) rfl (λ_ _=>.inl he) d⟩
 cases e with
 |normal=>
  have r:ALp P T n c Q fr' H':=g;obtain⟨s,t,u,m,f⟩:=r G0 F0 n0 w0 i j o b k cs;exact⟨s,t,u,m,.of_steps (Steps.trans d (.one step_inLoop)) f⟩
 |exit id=>exact pass _ aaB g d|goto l=>exact pass _ aaB g d|ret=>exact pass _ aaB g d|panic v=>exact pass _ aaB g d|outgrown=>exact pass _ aaB g d
end
def Sj(args:List AV):Fr:={env:=λt=>args.getD t (.tuple []),box:=λ_=>none,gen:=λ_=>0,yB:=λ_=>none,fu:=λ_=>0}
def OA(P:Program)(fr:Fr)(H:dd):List ResultVar->Option (List AV)
 |[]=>some []|.tmp t::rest=>(OA P fr H rest).map ((fr.env t).norm:: ·)|.cell a t::rest=>(yp P fr H t (fr.env a)).bind λv=>(OA P fr H rest).map (v.norm:: ·)
def zW:List AV->AV
 |[x]=>x|l=>.tuple l
def Ai(P:Program)(rs:List ResultVar)(Post:AV->dd->Prop):Exit->Fr->dd->Prop
 |.normal,fr,H|.ret,fr,H=>match OA P fr H rs with
  |some l=>Post (zW l) H|none=>False
 |_,_,_=>False
section
variable{P:Program} {T:ec} {n:Nat} {fr:Fr} {H:dd} {a:Act} {w:World}
def Xj(tmps:Array Value)(x:ResultVar):Sem Value:=
 match x with
 |.tmp t=>pure (tmps.getD t undef)|.cell a t=>do loadVar t (<-asAddr (tmps.getD a undef))
def I7{t:TypeId}{u v:Value}(h:(Instr.loadAt t u).run P w=.ok v w):(do loadVar t (<-asAddr u)).run P w=.ok v w:=by
 unfold Instr.loadAt at h;cases u with
 |pointer p=>
  cases p with
  |none=>simp[Instr.sureAddr,jn,stuck,Sem.run,Result.andThen] at h
  |some a=>exact h
 |_=>simp[Instr.sureAddr,jn,stuck,Sem.run,Result.andThen] at h
def W0{ρ:Maps}{F:nc}{R:Nat->si}{B0:Nat}(h:WR T n B0 ρ F R fr H a w):∀(rs:List ResultVar) (l:List AV),OA P fr H rs=some l->∃vs:List Value,(rs.mapM (Xj a.tmps)).run P w=.ok vs w/\iI F ρ.G ρ.n l vs:=by
 intro rs
 induction rs with
 |nil=>intro l b;simp[OA] at b;subst b;exact⟨[],rfl,.nil⟩
 |cons r rs k=>
  intro l b;cases r with
  |tmp t=>
   simp only[OA,YQ] at b;obtain⟨c,d,rfl⟩:=b;obtain⟨vs,f,g⟩:=k c d;refine⟨a.tmps.getD t undef::vs,?_,.cons (h.env t).norm g⟩;simp only[Y4,jn,Xj,sN,lL,f]
  |cell i t=>
   simp only[OA,Yd,YQ] at b;obtain⟨v,m,c,d,rfl⟩:=b;obtain⟨vs,f,g⟩:=k c d;obtain⟨u,hu,o⟩:=OX h m (h.env i);refine⟨u::vs,?_,.cons o.norm g⟩;have j:=I7 hu;simp only[Y4];rw[jn];have e:(Xj a.tmps (.cell i t))=(do loadVar t (<-asAddr (a.tmps.getD i undef))):=rfl;rw[e,j,lL,jn,f];rfl
def R_{ρ:Maps}{F:nc}{R:Nat->si}{B0:Nat}(h:WR T n B0 ρ F R fr H a w){fn:Func}{l:List AV}(c:OA P fr H fn.results.toList=some l):∃v,(results fn a.tmps).run P w=.ok v w/\ic F ρ.G ρ.n (zW l) v:=by
 obtain⟨vs,d,f⟩:=W0 (P:=P) h _ _ c
 have e:results fn a.tmps=(do
   let vs<-fn.results.mapM (Xj a.tmps)
   pure (if h:vs.size=1 then vs[0] else .tuple vs)):=rfl
 have hm:(fn.results.mapM (Xj a.tmps)).run P w=.ok vs.toArray w:=by
  rw[<-TH (xs:=fn.results),adl,run_map,d];rfl
 rw[e,jn,hm,lL,sN];refine⟨_,rfl,?_⟩;cases f with
 |nil=>exact .tuple (vs:=[]) .nil|cons b g=>
  cases g with
  |nil=>exact b|cons i j=>
   have:=ic.tuple (.cons b (.cons i j));simpa[zW] using this
open Classical in
def fl.intro{f:FuncId}{fn:Func}{c:Code}{args:List AV}{Post:AV->dd->Prop}(K:P.funcs[f]?=some fn)(M:fn.body=some c)(q:mX P f=true)(hlen:args.length<=fn.ntmps)
  (h:gM P T fn.ntmps c (Ai P fn.results.toList Post) (Sj args) H):fl P T f args H Post:=by
 refine⟨q,λG F w vs hg E=>?_⟩;refine calls_of_wp K M ?_;have s:args.length=vs.length:=E.length
 let ρ:Maps:={G:=G,n:=H.length,L:=λ_ _=>0,lg:=λ_=>0,A:=λ_ _=>none,ag:=λ_=>0}
 let R:Nat->si:=λb=>if∃o,o<H.length/\G o=b then .oB else .free
 have hw:WR T fn.ntmps w.heap.size ρ F R (Sj args) H {tmps:=vs.toArray++Array.replicate (fn.ntmps-vs.toArray.size) undef,defers:=[]} w:=by
  refine⟨hg,?_,rfl,?_,rfl,λ_=>rfl,λ_=>rfl,?_,?_,?_,?_,?_,ig _⟩
  ·simp only[Array.size_append,YK,Array.size_replicate];omega
  ·intro t;show h_ F ρ (args.getD t (.tuple [])) _;rcases tv t args.length with ht|ht
   ·obtain⟨v,x,y⟩:=E.get (nw ht)
    have z:args.getD t (.tuple [])=args[t]:=by simp[ht]
    have B:(vs.toArray++Array.replicate (fn.ntmps-vs.toArray.size) undef).getD t undef=v:=by
     rw[PC,Array.getElem?_append_left (by simpa[<-s] using ht)];simp[x]
    rw[z,B];exact .p y
   ·have z:args.getD t (.tuple [])=.tuple []:=by simp[UL ht]
    have B:(vs.toArray++Array.replicate (fn.ntmps-vs.toArray.size) undef).getD t undef=undef:=by
     rw[PC,Array.getElem?_append_right (by simpa[<-s] using ht),Array.getElem?_replicate]
     split<;>rfl
    rw[z,B];exact KI
  ·intro d cs N;cases N
  ·intro k m O;cases O
  ·intro b j v x d;show(if∃o,o<H.length/\G o=b then si.oB else .free)≠ .box d
   split<;>simp
  ·intro o C;show(if∃o',o'<H.length/\G o'=G o then si.oB else .free)=.oB;rw[cK ⟨o,C,rfl⟩]
  ·intro b Q;show(if∃o,o<H.length/\G o=b then si.oB else .free)=.free;rw[cI];rintro⟨o,C,rfl⟩;obtain⟨V,S,_⟩:=hg.oB o _ (nw C);have:=s8 S;omega
 refine wp_mono (h G F H.length w _ w ⟨ρ,F,R,hw,Ext.refl⟩) ?_;rintro e I w' ⟨fr',H',a,ρ',F',W,i,D⟩
 have key:∀{l:List AV},OA P fr' H' fn.results.toList=some l->Post (zW l) H'->I.defers=[]/\∃v,(results fn I.tmps).run P w'=.ok v w'/\∃r H' J G' F',Post r H'/\Ending.returned v=.returned J/\GW T G' F' H' w'/\ic F' G' H'.length r J/\Ext w.heap.size G F H.length w G' F' H'.length w':=by
  intro l u U;obtain⟨v,x,y⟩:=R_ i u;rw[i.hn] at y;exact⟨i.defers,v,x,_,_,v,_,_,U,rfl,i.g,y,D⟩
 cases e with
 |normal=>
  simp only[Ai] at a
  split at a
  ·rename_i l u;exact key u a
  ·exact a.elim
 |ret=>
  simp only[Ai] at a
  split at a
  ·rename_i l u;exact key u a
  ·exact a.elim
 |_=>exact a.elim
end
end Go.ns
