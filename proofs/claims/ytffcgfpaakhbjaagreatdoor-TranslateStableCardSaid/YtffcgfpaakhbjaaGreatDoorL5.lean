/- Part of the proof of TranslateStable: layer. -/
import Derived.Laws.IdiomStrings
import Derived.Scope
import Derived.Test.YtffcgfpaakhbjaaGreatDoorL4
set_option linter.all false
namespace Go.jN
open Go
def jK(P:Program)(f:FuncId):Bool:=
 match P.funcs[f]?with
 |some fn=>fn.body.isSome&&fn.name != "runtime.NumGoroutine"
 |none=>false
def dj(P:Program)(T:cV)(f:FuncId)(args:List AV)(H:cc)(Post:AV->cc->Prop):Prop:=
 jK P f=true/\∀(G:Nat->Nat) (F:js) (w:World) (vs:List Value),GW T G F H w->ft F G H.length args vs->Calls P f vs.toArray w λe w'=>∃r H' v G' F',Post r H'/\e=.returned v/\GW T G' F' H' w'/\eZ F' G' H'.length r v/\Ext w.heap.size G F H.length w G' F' H'.length w'
def dr(P:Program)(T:cV)(f:FuncId)(args:List AV)(H:cc)(r:AV)(H':cc):Prop:=dj P T f args H λb a=>b=r/\a=H'
def dj.mono{P:Program}{T:cV}{f:FuncId}{args:List AV}{H:cc}{Post Post':AV->cc->Prop}(h:dj P T f args H Post)(a:∀r H',Post r H'->Post' r H'):dj P T f args H Post':=
 ⟨h.1,λG F w vs hg b=>(h.2 G F w vs hg b).mono λ_ _ ⟨r,H',v,G',F',c,d⟩=>⟨r,H',v,G',F',a _ _ c,d⟩⟩
def dr.post{P:Program}{T:cV}{f:FuncId}{args:List AV}{H H':cc}{r:AV}{Post:AV->cc->Prop}(h:dr P T f args H r H')(a:Post r H'):dj P T f args H Post:=
 dj.mono h λe b ⟨c,d⟩=>by subst c;subst d;exact a
def kA(P:Program)(T:cV)(a:AV)(args:List AV)(H:cc)(Post:AV->cc->Prop):Prop:=
 match a with
 |.func (.func g) first cap=>dj P T g (first++args++cap) H Post
 |_=>False
section
variable{P:Program} {T:cV} {n:Nat} {G0:Nat->Nat} {F0:js} {n0:Nat} {w0:World} {fr:Fr} {H:cc} {a:Act} {w:World}
open Classical in
def WR.called{ρ:Maps}{F:js}{R:Nat->mP}{B0:Nat}(h:WR T n B0 ρ F R fr H a w){G':Nat->Nat}{F':js}{H':cc}{w':World}(hg:GW T G' F' H' w')
  (i:Ext w.heap.size ρ.G F H.length w G' F' H'.length w'):∃ρ' s,ρ'.G=G'/\ρ'.n=H'.length/\WR T n B0 ρ' F' s fr H' a w':=by
 let ρ':Maps:={ρ with G:=G',n:=H'.length}
 let s:Nat->mP:=λb=>if∃o,H.length<=o/\o<H'.length/\G' o=b then .kQ else R b
 have x:Et F F' ρ.G G' ρ.n H'.length:=by
  refine⟨λb o v D=>?_,by rw[h.hn];exact i.len,λo q=>i.hG o (by rw[<-h.hn];exact q)⟩;exact i.mF b o v (h.Zx D) D
 have t:uT F F' ρ ρ':=⟨x,λ_=>fT _,λ_ _ _=>rfl,λ_=>fT _,λ_ _ _=>rfl⟩
 have f:∀b,b<w.heap.size->s b=R b:=by
  intro b hb;show(if∃o,H.length<=o/\o<H'.length/\G' o=b then mP.kQ else R b)=R b;rw[bV];rintro⟨o,h1,p,rfl⟩;have:=i.Lh o h1 p;omega
 have l:∀b,R b≠ .kQ->∀o,o<H.length->ρ.G o≠b:=by
  rintro b hb o q rfl;exact hb (h.mL o q)
 refine⟨ρ',s,rfl,rfl,⟨hg,h.size,h.defers,h.env.grow t,rfl,h.lg,h.ag,?_,?_,?_,?_,?_,Ei h.oY i.size⟩⟩
 ·intro d cs I;obtain⟨h1,p,y,vs,ty,r,z⟩:=h.box d cs I;have g:=oB r;exact⟨h1,by rw[f _ g];exact p,y,vs,ty,(i.heap _ g (l _ (by rw[p];simp))).trans r,z.mono λ_ _ _ h=>h.grow t⟩
 ·intro k m J b c sz K;obtain⟨h1,p,y,A,⟨vs,ty,r,z⟩,L⟩:=h.tok k m J b c sz K;have g:=oB r;refine⟨h1,by rw[f _ g];exact p,y,A,⟨vs,ty,(i.heap _ g (l _ (by rw[p];simp))).trans r,z⟩,λj M=>?_⟩;rw[i.hF b j g (l _ (by rw[p];simp))];exact L j M
 ·intro b j v E;rcases sA b w.heap.size with hb|hb
  ·rw[f b hb]
   by_cases u:∃o,o<H.length/\ρ.G o=b
   ·obtain⟨o,q,rfl⟩:=u;rw[h.mL o q];simp
   ·rw[i.hF b j hb λo q e=>u ⟨o,q,e⟩] at E;exact h.oV b j v E
  ·intro d;show(if∃o,H.length<=o/\o<H'.length/\G' o=b then mP.kQ else R b)≠ .box d
   split
   ·simp
   ·rw[h.ki b hb];simp
 ·intro o q;rcases sA o H.length with h1|h1
  ·have B:=h.mL o h1
   have g:ρ.G o<w.heap.size:=by
    rcases sA (ρ.G o) w.heap.size with h'|h'
    ·exact h'
    ·rw[h.ki _ h'] at B;cases B
   show s (G' o)=.kQ;rw[i.hG o h1,f _ g];exact B
  ·show(if∃o',H.length<=o'/\o'<H'.length/\G' o'=G' o then mP.kQ else R (G' o))=.kQ;rw[bX ⟨o,h1,q,rfl⟩]
 ·intro b hb;show(if∃o,H.length<=o/\o<H'.length/\G' o=b then mP.kQ else R b)=.free;rw[bV]
  ·exact h.ki b (Ei i.size hb)
  ·rintro⟨o,h1,p,rfl⟩;have C:H'[o]?=some H'[o]:=mi p;obtain⟨N,r,_⟩:=hg.kQ o _ C;have:=oB r;omega
end
def FF(E:List Nat)(dst:Option Nat)(v:AV)(K:Fr->cc->Prop)(fr:Fr)(H:cc):Prop:=
 if dst.any E.contains then(match v with|.slice _ l=>K (fr.put dst (.oZ H.length 0 l.length l.length)) (H++[l.flatMap AV.cells])|_=>False)else K (fr.put dst v) H
def Ls(P:Program)(dst:Option Nat)(s d:TypeId)(x:AV)(K:Fr->cc->Prop)(fr:Fr)(H:cc):Prop:=
 match KC P s d x with
 |some v=>K (fr.put dst v) H|none=>match P.underlying s,P.underlying d,x with
  |some .string,some (.slice e),.sc (.string y)=>P.underlying e=some (.int .u8)/\y.size<=hS/\∀cap k,y.size<=cap->K (fr.put dst (.oZ H.length 0 y.size cap)) (H++[nP y++qj k])|_,_,_=>False
def p8(P:Program)(T:cV)(E:List Nat)(o:Oper)(K:Fr->cc->Prop)(fr:Fr)(H:cc):Prop:=
 match o.op with
 |.alloc t=>match fY P t with
  |some z=>jl E o.dst z K fr H|none=>False
 |.box _ x=>dn (ev T fr x)=true/\jl E o.dst (ev T fr x).cells K fr H|.load t x=>match sD P fr H t (ev T fr x)with
  |some v=>K (fr.put o.dst v) H|none=>False
 |.store t x y=>o.dst=none/\ky P t (ev T fr x) (ev T fr y) K fr H|.buildSlice t n ps=>match lv P t n (ps.toList.map λp=>(p.1,ev T fr p.2))with
  |some v=>FF E o.dst v K fr H|none=>False
 |.makeSlice t l c=>match wC P t (ev T fr l) (ev T fr c)with
  |some v=>K (fr.put o.dst v) H|none=>False
 |.convert s d x=>Ls P o.dst s d (ev T fr x) K fr H|.call c=>match c.callee with
  |.builtin .append=>(lD P T c o.dst K fr H\/Bv P T c o.dst K fr H)\/BN P T c o.dst K fr H\/nJ P T c o.dst K fr H|.builtin _=>match sJ P T fr c with
   |some v=>K (fr.put o.dst v) H|none=>False
  |.value f=>kA P T (ev T fr f) (c.args.toList.map λx=>(ev T fr x).norm) H λr H'=>K (fr.put o.dst r) H'|.invoke _ _=>False
 |.makeMap _ none=>Fc o.dst K fr H|.mapUpdate t m k x=>o.dst=none/\xp P t (ev T fr m) (ev T fr k) (ev T fr x) K fr H|.insert t m k x=>o.dst=none/\xp P t (ev T fr m) (ev T fr k) (ev T fr x) K fr H|.lookup t x i ok=>match EL P H t (ev T fr x) (ev T fr i) ok with
  |some v=>K (fr.put o.dst v) H|none=>False
 |.range t x=>ES P t (ev T fr x) o.dst K fr H|.next it false=>HN (ev T fr it) o.dst K fr H|.entry it=>match C7 (ev T fr it) H with
  |some v=>K (fr.put o.dst v) H|none=>False
 |_=>match vZ P T fr o with
  |some v=>K (fr.put o.dst v) H|none=>False
def qh(n:Nat)(o:Oper):Bool:=o.dst.all (λd=>decide (d<n))&&o.op.operands.all gW
def wH{n:Nat}{o:Oper}(h:qh n o=true):∀d,o.dst=some d->d<n:=by
 intro d a;simp only[qh,eg] at h;rw[a] at h;simpa using h.1
def Lp{n:Nat}{o:Oper}(h:qh n o=true):o.op.operands.all gW=true:=by
 simp only[qh,eg] at h;exact h.2
section
variable{P:Program} {T:cV} {n:Nat} {G0:Nat->Nat} {F0:js} {n0:Nat} {w0:World} {fr:Fr} {H:cc} {a:Act} {w:World}
def Ji(w:World){f:FuncId}(h:jK P f=true)(args:Array Value):(callFunc f args).run P w=.ok (.enter f args) w:=by
 unfold jK at h
 split at h
 ·rename_i fn b;simp only[eg,bne_iff_ne,ne_eq] at h;simp[callFunc,program,Sem.run,b,h.2];intro a;rw[a] at h;simp at h
 ·cases h
def G_{ρ:Maps}{F:js}{R:Nat->mP}(h:WR T n w0.heap.size ρ F R fr H a w)(m:Ext w0.heap.size G0 F0 n0 w0 ρ.G F H.length w)(s d:TypeId){e:TypeId}(y:ByteArray)(hs:P.underlying s=some .string)(p:P.underlying d=some (.slice e))
  (he:P.underlying e=some (.int .u8)) (f:y.size<=hS) {dst:Option Nat} (g:∀d,dst=some d->d<n):∃w',(convert s d (.string y)).run P w=.ok (.slice (some ⟨w.heap.size,0,none⟩) y.size (grownCap w y.size 0 e)) w'/\SR T n G0 F0 n0 w0 (fr.put dst (.oZ H.length 0 y.size (grownCap w y.size 0 e))) (H++[nP y++qj (grownCap w y.size 0 e-y.size)]) (a.put dst (.slice (some ⟨w.heap.size,0,none⟩) y.size (grownCap w y.size 0 e))) w':=by
 have i:=grownCap_ge w y.size 0 e;have hle:=grownCap_le_maxLen w y.size 0 e (by have:y.size<=1099511627776:=f;simp only[maxLen];omega);refine⟨_,run_bytes_of_string w s d e y hs p he,qD h.drew m.drew (.cells (.inr (fT _)) ?_ ?_) g ?_⟩
 ·have q:(bytesRow y (grownCap w y.size 0 e)).toList=Lib.strCells y++List.replicate (grownCap w y.size 0 e-y.size) (.int .u8 0):=by
   simp[bytesRow,Lib.strCells]
  rw[q];refine .append ?_ ?_
  ·have r:=(tF (F:=F) (G:=ρ.G) (k:=ρ.n) (Lib.strCells y) (λv t=>by obtain⟨b,_,rfl⟩:=ll.1 t;rfl)).sy
   have u:(Lib.strCells y).map AV.sc=nP y:=by simp[Lib.strCells,nP]
   rwa [u] at r
  ·generalize grownCap w y.size 0 e-y.size=k
   induction k with
   |zero=>exact .nil|succ k x=>
    show fi _ (List.replicate (k+1) AV.undef) (List.replicate (k+1) _);rw[RO,RO];exact .cons (.undef rfl) x
 ·intro c hc;rcases qO.1 hc with hc|hc
  ·obtain⟨b,_,rfl⟩:=ll.1 hc;rfl
  ·exact wv _ c hc
 ·intro ρ' hG j l;have:=eZ.oZ (F:=F) (G:=ρ'.G) (n:=ρ'.n) (o:=H.length) (off:=0) (len:=y.size) (cap:=grownCap w y.size 0 e) (by rw[l];omega) i hle;rw[j] at this;exact this
def DJ{E:List Nat}{o:Oper}{K:Fr->cc->Prop}{Q:Exit->Act->World->Prop}(U:qh n o=true)(hs:SR T n G0 F0 n0 w0 fr H a w)(h:p8 P T E o K fr H):o.wp P a w (λZ w'=>∃fr' H',K fr' H'/\SR T n G0 F0 n0 w0 fr' H' Z w') Q:=by
 obtain⟨ρ,F,R,hw,A⟩:=hs;have D:=wH U;have N:=Lp U
 have M:∀{v:AV},(∃u,(execOp a.eval o).run P w=.ok (.value u) w/\eJ F ρ v u)->K (fr.put o.dst v) H->o.wp P a w (λZ w'=>∃fr' H',K fr' H'/\SR T n G0 F0 n0 w0 fr' H' Z w') Q:=by
  rintro v ⟨u,O,hu⟩ J;unfold Oper.wp;rw[O];exact⟨_,_,J,ρ,F,R,hw.put D hu,A⟩
 have q:∀{s:Sem Value} {u:Value} {w':World},execOp a.eval o=(do pure (.value (<-s)))->s.run P w=.ok u w'->(∃fr' H',K fr' H'/\SR T n G0 F0 n0 w0 fr' H' (a.put o.dst u) w')->o.wp P a w (λZ w'=>∃fr' H',K fr' H'/\SR T n G0 F0 n0 w0 fr' H' Z w') Q:=by
  intro s u w' he O J;unfold Oper.wp;rw[he,fq,O];exact J
 obtain⟨dst,op,type,pos,after,guard⟩:=o;simp only at N D;have j:∀x∈op.operands,gW x=true:=λx A=>HI.1 N x A;unfold p8 at h;simp only at h
 split at h
 ·--alloc
  rename_i t
  split at h
  ·rename_i cells ai;obtain⟨z,hz,ak,an,rfl⟩:=IM ai;have ao:=h
   have aq:∀vs,z≠ .tuple vs:=by rintro vs rfl;simp[ofValue,dn] at an
   obtain⟨aa,ar⟩:=zX ak aq;refine q (s:=Instr.alloc t true (.tuple #[])) rfl (NZ w hz) ?_;refine Dl hw A ao D t ?_ ?_
   ·rw[aa];exact(pd F ρ.G ρ.n _ ar).sy.mono λ_ _ _ h=>.p h
   ·rw[aa];intro c W;obtain⟨u,_,rfl⟩:=ll.1 W;exact wY u
  ·exact h.elim
 ·--box
  rename_i t x;obtain⟨h1,h2⟩:=h;have I:=eF hw.env hw.fM x (j x (by simp[Op.operands]));exact q (s:=Instr.box t (a.eval x)) rfl rfl (Dl hw A h2 D t (I.cells (gl h1)) (I.qu (gl h1)))
 ·--load
  rename_i t x
  split at h
  ·rename_i v C;have I:=eF hw.env hw.fM x (j x (by simp[Op.operands]));obtain⟨u,hu,O⟩:=IG hw C I;exact q (s:=Instr.loadAt t (a.eval x)) rfl hu ⟨_,_,h,ρ,F,R,hw.put D O,A⟩
  ·exact h.elim
 ·--store
  rename_i t x y;obtain⟨L,h⟩:=h;subst L;have I:=eF hw.env hw.fM x (j x (by simp[Op.operands]));have aw:=eF hw.env hw.fM y (j y (by simp[Op.operands]));obtain⟨fr',H',w',b,J,hs⟩:=Mj hw A h I aw;unfold Oper.wp;have e:execOp a.eval {dst:=none,op:=.store t x y,type:=type,pos:=pos,after:=after,guard:=guard}=(do Instr.storeAt t (a.eval x) (a.eval y);pure .skip):=rfl;rw[e,fq,b];exact⟨fr',H',J,hs⟩
 ·--buildSlice
  rename_i t k ps
  split at h
  ·rename_i v C;have hp:=E0 hw.env hw.fM ps.toList λp hp=>j p.2 (by simp[Op.operands];exact⟨p.1,by simpa using hp⟩)
   have e:(ps.toList.map λp=>(p.1,a.eval p.2)).toArray=ps.map λp=>(p.1,a.eval p.2):=by rw[<-KP,Nh]
   unfold FF at h
   split at h
   ·split at h
    ·obtain⟨u,w',b,hs⟩:=AZ hw A C hp D;rw[e] at b;unfold Oper.wp;simp only[execOp,fq,b,hJ];exact⟨_,_,h,hs⟩
    ·exact h.elim
   ·obtain⟨u,w',b,hs⟩:=C9 hw A C hp D;rw[e] at b;unfold Oper.wp;simp only[execOp,fq,b,hJ];exact⟨_,_,h,hs⟩
  ·exact h.elim
 ·--makeSlice
  rename_i t l c
  split at h
  ·rename_i v C;obtain⟨u,w',b,hs⟩:=D7 hw A C (eF hw.env hw.fM l (j l (by simp[Op.operands]))) (eF hw.env hw.fM c (j c (by simp[Op.operands]))) D;exact q (s:=Instr.makeSlice t (a.eval l) (a.eval c)) rfl b ⟨_,_,h,hs⟩
  ·exact h.elim
 ·--convert
  rename_i t d x;have I:=eF hw.env hw.fM x (j x (by simp[Op.operands]));unfold Ls at h
  split at h
  ·rename_i v C;refine M (v:=v) (AO w hw.g.Fz hw.env hw.fM N ?_) h;simp only[vZ];exact C
  ·split at h
   ·rename_i e y hs ax ay;obtain⟨he,ab,h⟩:=h;rw[ay] at I;have C:=eb I;obtain⟨w',b,az⟩:=G_ hw A t d y hs ax he ab D;refine q (s:=convert t d (a.eval x)) rfl (by rw[C];exact b) ⟨_,_,h _ _ (by simpa using grownCap_ge w y.size 0 e),az⟩
   ·exact h.elim
 ·--call
  rename_i c;obtain⟨callee,args,argTypes⟩:=c;have B:∀x∈args.toList,gW x=true:=λx A=>j x (by simp[Op.operands,Call.operands,uX.1 A])
  split at h
  ·--append
   rename_i W;simp only at W;subst W;obtain⟨u,w',fr',H',b,J,hs⟩:=h.elim (λh=>h.elim (λh=>I4 (ty:=type) hw A h D B) (λh=>Hs (ty:=type) hw A h D B)) (λh=>h.elim (λh=>GR (ty:=type) hw A h D B) (λh=>GX (ty:=type) hw A h D B));unfold Oper.wp execOp;simp only[resolve,invoke,builtin,fq,m8,hJ];rw[b];exact⟨fr',H',J,hs⟩
  ·--ad builtin
   split at h
   ·rename_i v C;refine M (v:=v) (AO w hw.g.Fz hw.env hw.fM N ?_) h;simp only[vZ];exact C
   ·exact h.elim
  ·--a V value
   rename_i f W;simp only at W;subst W;unfold kA at h;have ae:=eF hw.env hw.fM f (j f (by simp[Op.operands,Call.operands]))
   split at h
   ·rename_i g first cap hf
    rw[hf] at ae;obtain⟨vf,vc,C,aA,aB⟩:=zq ae;obtain⟨af,X⟩:=h;have S:=Fo hw.env hw.fM args.toList B
    have Y:ft F ρ.G H.length (first++(args.toList.map λx=>(ev T fr x).norm)++cap) (vf++args.toList.map a.eval++vc):=by
     rw[<-hw.hn];exact((ft.nK aA).append S).append (.nK aB)
    have hC:=X ρ.G F w _ hw.g Y;unfold Oper.wp
    have e:(execOp a.eval {dst:=dst,op:=.call {callee:=.value f,args:=args,argTypes:=argTypes},type:=type,pos:=pos,after:=after,guard:=guard}).run P w=.ok (.enter g (vf++args.toList.map a.eval++vc).toArray) w:=by
     simp only[execOp,resolve,fq];rw[C];simp only[Deferred.ofValue,m8,hJ,invoke];rw[Ji w af]
     congr 2
     apply Bz.1;simp
    rw[e];show Calls P g _ w _;refine hC.mono ?_;rintro e' w' ⟨r,H',v,G',F',J,rfl,aC,aD,ah⟩;obtain⟨ρ',R',hG,aE,aF⟩:=hw.called aC ah;refine⟨_,_,J,ρ',F',R',aF.put D (.p ?_),?_⟩
    ·rw[hG,aE];exact aD
    ·rw[hG];exact A.trans (ah.mono hw.oY)
   ·exact h.elim
  ·exact h.elim
 ·--makeMap
  obtain⟨v,w',b,hs⟩:=GU (P:=P) hw A D;exact q (s:=Instr.makeMap _ none) rfl b ⟨_,_,h,hs⟩
 ·--mapUpdate
  rename_i t m k x;obtain⟨L,h⟩:=h;subst L;obtain⟨fr',H',w',b,J,hs⟩:=BJ hw A h (eF hw.env hw.fM m (j m (by simp[Op.operands]))) (eF hw.env hw.fM k (j k (by simp[Op.operands]))) (eF hw.env hw.fM x (j x (by simp[Op.operands])));unfold Oper.wp;have e:execOp a.eval {dst:=none,op:=.mapUpdate t m k x,type:=type,pos:=pos,after:=after,guard:=guard}=(do Instr.mapUpdate t (a.eval m) (a.eval k) (a.eval x);pure .skip):=rfl;rw[e,fq,b];exact⟨fr',H',J,hs⟩
 ·--insert
  rename_i t m k x;obtain⟨L,h⟩:=h;subst L;obtain⟨fr',H',w',b,J,hs⟩:=BJ hw A h (eF hw.env hw.fM m (j m (by simp[Op.operands]))) (eF hw.env hw.fM k (j k (by simp[Op.operands]))) (eF hw.env hw.fM x (j x (by simp[Op.operands])));unfold Oper.wp;have e:execOp a.eval {dst:=none,op:=.insert t m k x,type:=type,pos:=pos,after:=after,guard:=guard}=(do Instr.mapUpdate t (a.eval m) (a.eval k) (a.eval x);pure .skip):=rfl;rw[e,fq,b];exact⟨fr',H',J,hs⟩
 ·--lookup
  rename_i t x i ok
  split at h
  ·rename_i v C;obtain⟨u,hu,O⟩:=KK hw C (eF hw.env hw.fM x (j x (by simp[Op.operands]))) (eF hw.env hw.fM i (j i (by simp[Op.operands])));exact q (s:=Instr.lookup t (a.eval x) (a.eval i) ok) rfl hu ⟨_,_,h,ρ,F,R,hw.put D O,A⟩
  ·exact h.elim
 ·--range
  rename_i t x;obtain⟨v,w',fr',H',b,J,hs⟩:=LV hw A h D (eF hw.env hw.fM x (j x (by simp[Op.operands])));exact q (s:=Instr.range t (a.eval x)) rfl b ⟨_,_,J,hs⟩
 ·--next
  rename_i it;obtain⟨v,w',fr',H',b,J,hs⟩:=Nb hw A type h D (eF hw.env hw.fM it (j it (by simp[Op.operands])));exact q (s:=Instr.next (a.eval it) false type) rfl b ⟨_,_,J,hs⟩
 ·--entry
  rename_i it
  split at h
  ·rename_i v C;obtain⟨u,hu,O⟩:=M8 (P:=P) hw C (eF hw.env hw.fM it (j it (by simp[Op.operands])));exact q (s:=Instr.entry (a.eval it)) rfl hu ⟨_,_,h,ρ,F,R,hw.put D O,A⟩
  ·exact h.elim
 ·--all others only compute
  split at h
  ·rename_i v C;exact M (v:=v) (AO w hw.g.Fz hw.env hw.fM N C) h
  ·exact h.elim
end
end Go.jN
namespace Go.jN
open Go
def DB(P:Program)(T:cV)(E:List Nat)(ops:Array Oper)(o:Oper)(K:Fr->cc->Prop)(fr:Fr)(H:cc):Prop:=
 match o.guard with
 |none=>p8 P T E o K fr H|some (j,want)=>
  match(ops[j]?).bind (·.dst)with
  |some d=>
   match fr.env d with
   |.sc (.bool b)=>if b=want then p8 P T E o K fr H else K (fr.put o.dst (.tuple [])) H|.tuple _=>K (fr.put o.dst (.tuple [])) H|_=>False
  |none=>False
def fK(P:Program)(T:cV)(E:List Nat)(ops:Array Oper):List Oper->(Fr->cc->Prop)->Fr->cc->Prop
 |[],K,fr,H=>K fr H|o::rest,K,fr,H=>DB P T E ops o (λfr H=>fK P T E ops rest K fr H) fr H
def yW(n:Nat)(ops:Array Oper):Bool:=ops.all (qh n)
section
variable{P:Program} {T:cV} {n:Nat} {G0:Nat->Nat} {F0:js} {n0:Nat} {w0:World} {fr:Fr} {H:cc} {a:Act} {w:World}
def DO{F:js}{ρ:Maps}:eJ F ρ (.tuple []) undef:=.p (.tuple (vs:=[]) .nil)
def SR.put(hs:SR T n G0 F0 n0 w0 fr H a w){d:Option Nat}(c:∀b,d=some b->b<n):SR T n G0 F0 n0 w0 (fr.put d (.tuple [])) H (a.put d undef) w:=by
 obtain⟨ρ,F,R,hw,e⟩:=hs;exact⟨ρ,F,R,hw.put c DO,e⟩
def M3(hs:SR T n G0 F0 n0 w0 fr H a w){ops:Array Oper}{j d:Nat}{b:Bool}(f:(ops[j]?).bind (·.dst)=some d)(he:fr.env d=.sc (.bool b)):yielded ops a.tmps j=some b:=by
 obtain⟨ρ,F,R,hw,g⟩:=hs;have h:=hw.env d;rw[he] at h;have c:=eb h;unfold yielded;rw[f];simp only[Xa];cases e:a.tmps[d]?with
 |none=>rw[Jz,e] at c;cases c
 |some v=>
  rw[Jz,e] at c;simp at c;subst c;rfl
def Hk(hs:SR T n G0 F0 n0 w0 fr H a w){ops:Array Oper}{j d:Nat}{l:List AV}(b:(ops[j]?).bind (·.dst)=some d)(he:fr.env d=.tuple l):yielded ops a.tmps j=none:=by
 obtain⟨ρ,F,R,hw,e⟩:=hs;have h:=hw.env d;rw[he] at h;unfold yielded;rw[b];simp only[Xa];cases c:a.tmps[d]?with
 |none=>rfl|some v=>
  rw[Jz,c] at h;simp at h;cases h with
  |cell h=>cases h with|p h=>cases h;rfl
def DS{E:List Nat}{ops:Array Oper}{i:Nat}{o:Oper}{K:Fr->cc->Prop}{Q:Exit->Act->World->Prop}(hi:ops[i]?=some o)(c:qh n o=true)(hs:SR T n G0 F0 n0 w0 fr H a w)
  (h:DB P T E ops o K fr H) {N:Act->World->Prop} (g:∀fr' H' f w',K fr' H'->SR T n G0 F0 n0 w0 fr' H' f w'->N f w'):wpOp P ops Q i N a w:=by
 unfold wpOp;simp only[hi];unfold DB at h
 split at h
 ·rename_i hg;rw[bX (by simp[Region.wanted,hg])];exact .inl (Oper.wp_mono (λf w' ⟨fr',H',k,e⟩=>g fr' H' f w' k e) (DJ c hs h))
 ·rename_i j want hg
  split at h
  ·rename_i d p
   split at h
   ·rename_i b he;have hy:=M3 hs p he
    split at h
    ·rename_i m;rw[bX (by simp[Region.wanted,hg,hy,m])];exact .inl (Oper.wp_mono (λf w' ⟨fr',H',k,e⟩=>g fr' H' f w' k e) (DJ c hs h))
    ·rename_i m;rw[bV (by simp[Region.wanted,hg,hy,m])];exact g _ _ _ _ h (hs.put (wH c))
   ·rename_i l he;have hy:=Hk hs p he;rw[bV (by simp[Region.wanted,hg,hy])];exact g _ _ _ _ h (hs.put (wH c))
   ·exact h.elim
  ·exact h.elim
def N2{E:List Nat}{ops:Array Oper}{K:Fr->cc->Prop}{Q:Exit->Act->World->Prop}(b:yW n ops=true)
  (i:∀fr' H' e w',K fr' H'->SR T n G0 F0 n0 w0 fr' H' e w'->Q .normal e w'):∀(l:List Oper) (k:Nat) (fr:Fr) (H:cc) (a:Act) (w:World),l=ops.toList.drop k->SR T n G0 F0 n0 w0 fr H a w->fK P T E ops l K fr H->wpOps P ops Q (List.range' k l.length) a w:=by
 intro l
 induction l with
 |nil=>
  intro k fr H a w c hs h;simp only[tP,List.range'_zero,wpOps];exact i _ _ _ _ h hs
 |cons o l j=>
  intro k fr H a w c hs h
  have d:k<ops.toList.length:=by
   rcases sA k ops.toList.length with h'|h'
   ·exact h'
   ·rw[F_ h'] at c;cases c
  have m:=Ma d;rw[m] at c;injection c with p q
  have hi:ops[k]?=some o:=by
   rw[p];simp only[Z6];exact SB (by simpa using d)
  simp only[j0,XN];rw[wpOps_cons];have f:qh n o=true:=HI.1 b o (R4 hi);refine DS hi f hs h ?_;intro fr' H' e w' r g;exact j (k+1) fr' H' e w' q g r
end
def fA(P:Program)(T:cV)(n:Nat)(c:Code)(Q:Exit->Fr->cc->Prop)(fr:Fr)(H:cc):Prop:=
 ∀G0 F0 n0 w0 a w,SR T n G0 F0 n0 w0 fr H a w->c.wp P (λe b w'=>∃fr' H',Q e fr' H'/\SR T n G0 F0 n0 w0 fr' H' b w') a w
def BG(K:Fr->cc->Prop)(Q:Exit->Fr->cc->Prop):Exit->Fr->cc->Prop
 |.normal,fr,H=>K fr H|e,fr,H=>Q e fr H
def FA(id:Nat)(Q:Exit->Fr->cc->Prop):Exit->Fr->cc->Prop
 |.exit a,fr,H=>if a=id then Q .normal fr H else Q (.exit a) fr H|e,fr,H=>Q e fr H
section
variable{P:Program} {T:cV} {n:Nat} {Q Q':Exit->Fr->cc->Prop} {fr:Fr} {H:cc}
def fA.mono{c:Code}(h:fA P T n c Q fr H)(b:∀e fr H,Q e fr H->Q' e fr H):fA P T n c Q' fr H:=
 λG0 F0 n0 w0 a w hs=>wp_mono (h G0 F0 n0 w0 a w hs) λ_ _ _ ⟨fr',H',d,f⟩=>⟨fr',H',b _ _ _ d,f⟩
def fA.skip(h:Q .normal fr H):fA P T n .skip Q fr H:=λ_ _ _ _ _ _ hs=>wp_skip ⟨_,_,h,hs⟩
def fA.label{l:Nat}(h:Q .normal fr H):fA P T n (.label l) Q fr H:=λ_ _ _ _ _ _ hs=>wp_label ⟨_,_,h,hs⟩
def fA.scope{c:Code}(h:fA P T n c (λe fr H=>(match e with|.goto _=>False|_=>True)/\Q e fr H) fr H):fA P T n (.scope c) Q fr H:=
 λG0 F0 n0 w0 a w hs=>wp_scope_straight (wp_mono (h G0 F0 n0 w0 a w hs) λe _ _ ⟨fr',H',b,d⟩=>by
  cases e<;>first|exact b.1.elim|exact⟨fr',H',b.2,d⟩)
def fA.exit{id:Nat}(h:Q (.exit id) fr H):fA P T n (.exit id) Q fr H:=λ_ _ _ _ _ _ hs=>wp_exit ⟨_,_,h,hs⟩
def fA.ret(h:Q .ret fr H):fA P T n .ret Q fr H:=λ_ _ _ _ _ _ hs=>wp_ret ⟨_,_,h,hs⟩
def fA.seq{x y:Code}(h:fA P T n x (BG (fA P T n y Q) Q) fr H):fA P T n (.seq x y) Q fr H:=by
 intro G0 F0 n0 w0 a w hs;refine wp_seq (wp_mono (h G0 F0 n0 w0 a w hs) ?_);rintro e d w' ⟨fr',H',b,c⟩
 cases e<;>first|exact b G0 F0 n0 w0 d w' c|exact⟨fr',H',b,c⟩
def fA.cond{c:Operand}{x y:Code}{t:Bool}(d:ev T fr c=.sc (.bool t))(f:gW c=true)(g:t=true->fA P T n x Q fr H)(i:t=false->fA P T n y Q fr H):fA P T n (.cond c x y) Q fr H:=by
 intro G0 F0 n0 w0 a w hs;have b:=hs;obtain⟨ρ,F,R,hw,j⟩:=b;have h:=eF hw.env hw.fM c f;rw[d] at h;exact wp_cond_split (eb h) (λe=>g e G0 F0 n0 w0 a w hs) (λe=>i e G0 F0 n0 w0 a w hs)
def fA.block{id:Nat}{c:Code}(h:fA P T n c (FA id Q) fr H):fA P T n (.block id c) Q fr H:=by
 intro G0 F0 n0 w0 a w hs;refine wp_block (wp_mono (h G0 F0 n0 w0 a w hs) ?_);rintro e g w' ⟨fr',H',b,d⟩;cases e with
 |exit f=>
  simp only[FA,Exit.inBlock] at b|-
  split at b
  ·rename_i he;rw[bX he];exact⟨fr',H',b,d⟩
  ·rename_i he;rw[bV he];exact⟨fr',H',b,d⟩
 |_=>exact⟨fr',H',b,d⟩
def fA.region{id:Nat}{ops:Array Oper}(E:List Nat)(b:yW n ops=true)(h:fK P T E ops ops.toList (Q .normal) fr H):fA P T n (.region id ops false) Q fr H:=by
 intro G0 F0 n0 w0 a w hs;refine wp_region ?_;have:=N2 (Q:=λe c w'=>∃fr' H',Q e fr' H'/\SR T n G0 F0 n0 w0 fr' H' c w') b (λfr' H' c w' d f=>⟨fr',H',d,f⟩) ops.toList 0 fr H a w aas hs h;rw[UG];simpa using this
def VZ(P:Program)(T:cV)(n:Nat)(c:Code)(Q:Exit->Fr->cc->Prop)(fr:Fr)(H:cc):Prop:=
 ∀G0 F0 n0 w0 a w,SR T n G0 F0 n0 w0 fr H a w->∀(b:Frame) (k:List Item) (cs:List Frame),∃e d w',(∃fr' H',Q e fr' H'/\SR T n G0 F0 n0 w0 fr' H' d w')/\Arrives P (lone (b.at a (.code c::.inLoop c::k)) cs w) b k cs e d w'
def fA.loop{c:Code}(h:VZ P T n c Q fr H):fA P T n (.loop c) Q fr H:=by
 intro G0 F0 n0 w0 a w hs b k cs;obtain⟨e,f,w',g,d⟩:=h G0 F0 n0 w0 a w hs b k cs;exact⟨e,f,w',g,.of_steps (.one step_loop) d⟩
def VZ.round{c:Code}(h:fA P T n c (BG (VZ P T n c Q) Q) fr H):VZ P T n c Q fr H:=by
 intro G0 F0 n0 w0 a w hs b k cs;obtain⟨e,i,j,⟨fr',H',g,o⟩,d⟩:=h G0 F0 n0 w0 a w hs b (.inLoop c::k) cs
 have pass:∀e,e≠ .normal->Q e fr' H'->Arrives P (lone (b.at a (.code c::.inLoop c::k)) cs w) b (.inLoop c::k) cs e i j->∃e p w',(∃fr' H',Q e fr' H'/\SR T n G0 F0 n0 w0 fr' H' p w')/\Arrives P (lone (b.at a (.code c::.inLoop c::k)) cs w) b k cs e p w':=by
  intro e he q d;exact⟨e,i,j,⟨fr',H',q,o⟩,.pass (x:=.inLoop c) rfl (λ_ _=>.inl he) d⟩
 cases e with
 |normal=>
  have r:VZ P T n c Q fr' H':=g;obtain⟨s,t,u,m,f⟩:=r G0 F0 n0 w0 i j o b k cs;exact⟨s,t,u,m,.of_steps (Steps.trans d (.one step_inLoop)) f⟩
 |exit id=>exact pass _ aas g d|goto l=>exact pass _ aas g d|ret=>exact pass _ aas g d|panic v=>exact pass _ aas g d|outgrown=>exact pass _ aas g d
end
def KU(args:List AV):Fr:={env:=λt=>args.getD t (.tuple []),box:=λ_=>none,gen:=λ_=>0,r_:=λ_=>none,dv:=λ_=>0}
def G8(P:Program)(fr:Fr)(H:cc):List ResultVar->Option (List AV)
 |[]=>some []|.tmp t::rest=>(G8 P fr H rest).map ((fr.env t).norm:: ·)|.cell a t::rest=>(sD P fr H t (fr.env a)).bind λv=>(G8 P fr H rest).map (v.norm:: ·)
def tm:List AV->AV
 |[x]=>x|l=>.tuple l
def xW(P:Program)(rs:List ResultVar)(Post:AV->cc->Prop):Exit->Fr->cc->Prop
 |.normal,fr,H|.ret,fr,H=>match G8 P fr H rs with
  |some l=>Post (tm l) H|none=>False
 |_,_,_=>False
section
variable{P:Program} {T:cV} {n:Nat} {fr:Fr} {H:cc} {a:Act} {w:World}
def QT(tmps:Array Value)(x:ResultVar):Sem Value:=
 match x with
 |.tmp t=>pure (tmps.getD t undef)|.cell a t=>do loadVar t (<-asAddr (tmps.getD a undef))
def A4{t:TypeId}{u v:Value}(h:(Instr.loadAt t u).run P w=.ok v w):(do loadVar t (<-asAddr u)).run P w=.ok v w:=by
 unfold Instr.loadAt at h;cases u with
 |pointer p=>
  cases p with
  |none=>simp[Instr.sureAddr,fq,stuck,Sem.run,Result.andThen] at h
  |some a=>exact h
 |_=>simp[Instr.sureAddr,fq,stuck,Sem.run,Result.andThen] at h
def R0{ρ:Maps}{F:js}{R:Nat->mP}{B0:Nat}(h:WR T n B0 ρ F R fr H a w):∀(rs:List ResultVar) (l:List AV),G8 P fr H rs=some l->∃vs:List Value,(rs.mapM (QT a.tmps)).run P w=.ok vs w/\ft F ρ.G ρ.n l vs:=by
 intro rs
 induction rs with
 |nil=>intro l b;simp[G8] at b;subst b;exact⟨[],rfl,.nil⟩
 |cons r rs k=>
  intro l b;cases r with
  |tmp t=>
   simp only[G8,T2] at b;obtain⟨c,d,rfl⟩:=b;obtain⟨vs,f,g⟩:=k c d;refine⟨a.tmps.getD t undef::vs,?_,.cons (h.env t).norm g⟩;simp only[UY,fq,QT,m8,hJ,f]
  |cell i t=>
   simp only[G8,Yj,T2] at b;obtain⟨v,m,c,d,rfl⟩:=b;obtain⟨vs,f,g⟩:=k c d;obtain⟨u,hu,o⟩:=IG h m (h.env i);refine⟨u::vs,?_,.cons o.norm g⟩;have j:=A4 hu;simp only[UY];rw[fq];have e:(QT a.tmps (.cell i t))=(do loadVar t (<-asAddr (a.tmps.getD i undef))):=rfl;rw[e,j,hJ,fq,f];rfl
def K_{ρ:Maps}{F:js}{R:Nat->mP}{B0:Nat}(h:WR T n B0 ρ F R fr H a w){fn:Func}{l:List AV}(c:G8 P fr H fn.results.toList=some l):∃v,(results fn a.tmps).run P w=.ok v w/\eZ F ρ.G ρ.n (tm l) v:=by
 obtain⟨vs,d,f⟩:=R0 (P:=P) h _ _ c
 have e:results fn a.tmps=(do
   let vs<-fn.results.mapM (QT a.tmps)
   pure (if h:vs.size=1 then vs[0] else .tuple vs)):=rfl
 have hm:(fn.results.mapM (QT a.tmps)).run P w=.ok vs.toArray w:=by
  rw[<-Nh (xs:=fn.results),ZH,run_map,d];rfl
 rw[e,fq,hm,hJ,m8];refine⟨_,rfl,?_⟩;cases f with
 |nil=>exact .tuple (vs:=[]) .nil|cons b g=>
  cases g with
  |nil=>exact b|cons i j=>
   have:=eZ.tuple (.cons b (.cons i j));simpa[tm] using this
open Classical in
def dj.intro{f:FuncId}{fn:Func}{c:Code}{args:List AV}{Post:AV->cc->Prop}(K:P.funcs[f]?=some fn)(M:fn.body=some c)(q:jK P f=true)(hlen:args.length<=fn.ntmps)
  (h:fA P T fn.ntmps c (xW P fn.results.toList Post) (KU args) H):dj P T f args H Post:=by
 refine⟨q,λG F w vs hg E=>?_⟩;refine calls_of_wp K M ?_;have s:args.length=vs.length:=E.length
 let ρ:Maps:={G:=G,n:=H.length,L:=λ_ _=>0,lg:=λ_=>0,A:=λ_ _=>none,ag:=λ_=>0}
 let R:Nat->mP:=λb=>if∃o,o<H.length/\G o=b then .kQ else .free
 have hw:WR T fn.ntmps w.heap.size ρ F R (KU args) H {tmps:=vs.toArray++Array.replicate (fn.ntmps-vs.toArray.size) undef,defers:=[]} w:=by
  refine⟨hg,?_,rfl,?_,rfl,λ_=>rfl,λ_=>rfl,?_,?_,?_,?_,?_,fT _⟩
  ·simp only[Array.size_append,U1,Array.size_replicate];omega
  ·intro t;show eJ F ρ (args.getD t (.tuple [])) _;rcases sA t args.length with ht|ht
   ·obtain⟨v,x,y⟩:=E.get (mi ht)
    have z:args.getD t (.tuple [])=args[t]:=by simp[ht]
    have B:(vs.toArray++Array.replicate (fn.ntmps-vs.toArray.size) undef).getD t undef=v:=by
     rw[Jz,Array.getElem?_append_left (by simpa[<-s] using ht)];simp[x]
    rw[z,B];exact .p y
   ·have z:args.getD t (.tuple [])=.tuple []:=by simp[Sy ht]
    have B:(vs.toArray++Array.replicate (fn.ntmps-vs.toArray.size) undef).getD t undef=undef:=by
     rw[Jz,Array.getElem?_append_right (by simpa[<-s] using ht),Array.getElem?_replicate]
     split<;>rfl
    rw[z,B];exact DO
  ·intro d cs N;cases N
  ·intro k m O;cases O
  ·intro b j v x d;show(if∃o,o<H.length/\G o=b then mP.kQ else .free)≠ .box d
   split<;>simp
  ·intro o C;show(if∃o',o'<H.length/\G o'=G o then mP.kQ else .free)=.kQ;rw[bX ⟨o,C,rfl⟩]
  ·intro b Q;show(if∃o,o<H.length/\G o=b then mP.kQ else .free)=.free;rw[bV];rintro⟨o,C,rfl⟩;obtain⟨V,S,_⟩:=hg.kQ o _ (mi C);have:=oB S;omega
 refine wp_mono (h G F H.length w _ w ⟨ρ,F,R,hw,Ext.refl⟩) ?_;rintro e I w' ⟨fr',H',a,ρ',F',W,i,D⟩
 have key:∀{l:List AV},G8 P fr' H' fn.results.toList=some l->Post (tm l) H'->I.defers=[]/\∃v,(results fn I.tmps).run P w'=.ok v w'/\∃r H' J G' F',Post r H'/\Ending.returned v=.returned J/\GW T G' F' H' w'/\eZ F' G' H'.length r J/\Ext w.heap.size G F H.length w G' F' H'.length w':=by
  intro l u U;obtain⟨v,x,y⟩:=K_ i u;rw[i.hn] at y;exact⟨i.defers,v,x,_,_,v,_,_,U,rfl,i.g,y,D⟩
 cases e with
 |normal=>
  simp only[xW] at a
  split at a
  ·rename_i l u;exact key u a
  ·exact a.elim
 |ret=>
  simp only[xW] at a
  split at a
  ·rename_i l u;exact key u a
  ·exact a.elim
 |_=>exact a.elim
end
end Go.jN
