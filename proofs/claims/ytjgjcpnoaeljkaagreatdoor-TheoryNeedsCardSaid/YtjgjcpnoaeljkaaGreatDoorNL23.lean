/- Part of the proof of TheoryNeeds: layer. -/
import Derived.WalkKit
import Derived.ProofKit
import Derived.LaidMore
import Derived.OpenShut
import Derived.Stop.Joined
import Derived.MakeChecks
import Derived.SevenTiedAt
import Derived.Test.YtjgjcpnoaeljkaaGreatDoorNL22
set_option linter.all false
namespace Go.kC
open Go Go.ChangeShapes Go.WideShapes Go.ChangeAt Go.RowKit
def rN(W:World):jo:=λb o=>if b<W.heap.size then W.cell? ⟨b,o,none⟩else none
def UG(T:dt)(W:World)(a:¬∀g,T g=none)(c:∀g x,T g=some x->fE (rN W) (λ_=>0) 0 (.lx x) (.pointer (some ⟨g,0,none⟩))):GW T (λ_=>0) (rN W) [] W where
 Cp:=by
  intro b o v h;unfold rN at h
  split at h
  .exact h
  .cases h
 jU:=by intro o cs h;simp at h
 inj:=by intro o o' h;exact absurd h (Y' _)
 gF:=by intro o j h _;exact absurd h (Y' _)
 fresh:=by
  intro b j h;unfold rN;rw[cO VW]
 xX:=c
 row h:=absurd h a
def GX{W:World}{b o:Nat}{v:Value}(h:W.cell? ⟨b,o,none⟩=some v):rN W b o=some v:=by
 unfold rN;rw[cS,h];unfold World.cell? at h;cases a:W.heap[b]?with
 |none=>simp[a] at h
 |some x=>exact(Mt.1 a).1
def Ext.below{G G':Nat->Nat}{F F':jo}{n':Nat}{w w':World}(h:Ext w.heap.size G F 0 w G' F' n' w'):Below w.heap.size w w':=
 ⟨h.os,h.tape,h.output,h.size,λk a=>h.heap k a λo b=>absurd b (Y' _)⟩
def ec.lift{P:Program}{f:FuncId}{args:List AV}{vs:List Value}{Post:AV->cZ->Prop}{T:dt}{W:World}(a:¬∀g,T g=none)(b:∀g x,T g=some x->fE (rN W) (λ_=>0) 0 (.lx x) (.pointer (some ⟨g,0,none⟩)))
  (h:ec P T f args [] Post) (c:fG (rN W) (λ_=>0) 0 args vs):Calls P f vs.toArray W λe w'=>∃r H' v G' F',Post r H'/\e=.returned v/\fE F' G' H'.length r v/\Below W.heap.size W w':=by
 refine(h.2 _ _ W vs (UG T W a b) c).mono ?_;rintro e w' ⟨r,H',v,G',F',d,i,_,j,k⟩;exact⟨r,H',v,G',F',d,i,j,k.below⟩
def SG{F:jo}{G:Nat->Nat}{n:Nat}{v:Value}(h:fE F G n (.sc (.bool true)) v):v=.bool true:=by cases h;rfl
def ec.law{P:Program}{f:FuncId}{args:List AV}{vs:List Value}{T:dt}{W:World}(a:¬∀g,T g=none)(b:∀g x,T g=some x->fE (rN W) (λ_=>0) 0 (.lx x) (.pointer (some ⟨g,0,none⟩)))
  (h:ec P T f args [] λr _=>r=.sc (.bool true)) (c:fG (rN W) (λ_=>0) 0 args vs):Calls P f vs.toArray W λe w'=>e=.returned (.bool true)/\Below W.heap.size W w':=by
 refine(h.lift a b c).mono ?_;rintro e w' ⟨r,H',v,G',F',rfl,rfl,d,i⟩;exact⟨by rw[SG d],i⟩
section
variable{H:Type} {enc:TypeId×Value->H} {P:Program}
def IN{f:Func}{s:ChangeSpec}{apart fresh handsOn again:Bool}{W i:World}{args:Array Value}{v:Value}{k gs:List (DataW H)}{before pa pv:List MemPlace}
  (n:DataW.Whole enc P f.params.toList s.vars apart W args.toList k gs before)
  (d:∀(b:Nat) (sp:Nat->Bool) (w:Bool),DataW.TrodAll enc P i b sp w f.resultTypes.toList (v.resultList f.resultTypes.size) (s.fn H (k++gs)).results [])
  (a:∀sp:Nat->Bool,(∀p∈before,sp p.block=true)->DataW.TrodAll enc P i 0 sp true f.params.toList args.toList (s.fn H (k++gs)).args pa)
  (c:∀sp:Nat->Bool,(∀p∈before,sp p.block=true)->DataW.TrodVars enc P i sp s.vars (s.fn H (k++gs)).vars pv)
  (h:before=pa++pv) (u:Below W.heap.size W i)
  (o:∀(j:Nat) (t:TypeId) (r:Value),f.resultTypes[j]?=some t->(v.resultList f.resultTypes.size)[j]?=some r->Value.okWide P i .any 0 t r):s.post enc P f apart fresh handsOn again W args v i:=by
 have hold:∀p∈before,(λb=>decide (b<W.heap.size)) p.block=true:=λp l=>by simpa using n.lt p l
 refine⟨k,gs,before,[],pa,pv,n,d _ _ _,a _ hold,c _ hold,u.frame _,λ_=>?_⟩;have q:=n.lt;obtain⟨_,_,_,_,_,x,hn⟩:=n;refine⟨o,_,_,([]++pa)++pv,⟨[]++pa,pv,trodAll_append (a _ (λ_ _=>rfl)) (d _ _ _),c _ (λ_ _=>rfl),rfl,?_,?_⟩,?_⟩
 .intro b off l
  have hm:MemPlace.cell b off∈before:=by rw[h];simpa using l
  rw[u.frozen (p:=⟨b,off,none⟩) (q _ hm)];exact x b off hm
 .intro y;have:=hn y;rw[h] at this;simpa using this
 .intro p l _;rw[h];simpa using l
end
def FV{P:Program}{w:World}{r:Reach}{b:Nat}{t e:TypeId}{v:Value}(c:P.underlying t=some (.slice e))(a:Value.okWide P w r b t v):v.cells.toList=[v]:=by
 simp only[Value.okWide,c,Cell.okWide,Cell.ok] at a
 cases v<;>first|rfl|(exact a.elim)|(simp at a)
def SZ{H:Type}{enc:TypeId×Value->H}{P:Program}{W:World}{t e:TypeId}{fuel:Nat}{cs:List Value}{x:DataW H×List MemPlace}(B:P.underlying t=some (.slice e))(he:P.underlying e=some (.int .i64))(q:P.cellsOf e=1)
  (h:DataW.trod enc P W 0 (λ_=>true) true fuel t cs=some x):∃L:List Int,fG (rN W) (λ_=>0) 0 [.slice .iw (L.map λn=>.sc (.int .i64 n))] cs:=by
 rcases open_ints B he q h with⟨rfl,_⟩|⟨a,len,cap,f,rfl,_,C,D,F,_,A,_⟩
 .exact⟨[],.cons (fE.slice (vs:=[]) (b:=0) (o:=0) (sz:=1) .nil (λi v h=>by simp at h) aaL aaL aaL (YZ _) (YZ _) (.inl rfl)) .nil⟩
 .simp only[if_true] at F;refine⟨f.take len,.cons ?_ .nil⟩
  have r:((f.take len).map λn=>(AV.sc (.int .i64 n))).length=len:=acz
  have j:((f.take len).map λn=>(AV.sc (.int .i64 n))).flatMap AV.cells=(f.take len).map λn=>(AV.sc (.int .i64 n)):=by
   generalize f.take len=l
   induction l with
   |nil=>rfl|cons z l ih=>simp only[CN,Fp,ih];rfl
  have key:=@fE.slice (rN W) (λ_=>0) 0 .iw ((f.take len).map λn=>(AV.sc (.int .i64 n))) ((f.take len).map λn=>Value.int .i64 n) a.block a.off (some a) cap 1 ?_ ?_ ?_ ?_ ?_ ?_ D (.inl rfl)
  .rw[r] at key;exact key
  .rw[j]
   induction f.take len with
   |nil=>exact .nil|cons z l ih=>exact .cons (.sc rfl) ih
  .intro i v k
   have hi:i<len:=by
    have:=(mI.1 k).1;simp at this;omega
   have u:i<f.length:=VW
   have d:=A i u
   have w:v=.int .i64 (f.getD i 0):=by
    rw[yq,afZ hi] at k;rw[l5 u] at k;simp at k;rw[<-k];simp[u]
   subst w;apply GX;unfold Addr.add at d
   split at d
   .subst_vars
    unfold World.cell? at d|-
    split at d
    .split at d
     .cases d
     .simp_all
    .cases d
   .exact d
  .intro y
   have hlen:0<len:=by
    rw[<-r];exact R0.2 y
   have d:=A 0 VW;unfold Addr.add at d;simp at d;unfold World.cell? at d
   split at d
   .split at d
    .cases d
    .rename_i hs;cases a with
     |mk b o s=>cases s<;>simp_all
   .cases d
  .intro x G;obtain⟨n,_,rfl⟩:=nw.1 G;rfl
  .rw[j];intro c q;obtain⟨n,_,rfl⟩:=nw.1 q;rfl
  .rw[r];exact C
def Uz{H:Type}{enc:TypeId×Value->H}{P:Program}{W:World}{t e:TypeId}{v:Value}{d:DataW H}{ps:List MemPlace}{r:Reach}{f:Nat}(b:P.underlying t=some (.slice e))(he:P.underlying e=some (.int .i64))(i:P.cellsOf e=1)
  (a:Value.okWide P W r f t v) (h:DataW.Trod enc P W 0 (λ_=>true) true t v d ps):∃L:List Int,fG (rN W) (λ_=>0) 0 [.slice .iw (L.map λn=>.sc (.int .i64 n))] [v]:=by
 obtain⟨fuel,c⟩:=h;rw[FV b a] at c;exact SZ b he i c
end Go.kC
