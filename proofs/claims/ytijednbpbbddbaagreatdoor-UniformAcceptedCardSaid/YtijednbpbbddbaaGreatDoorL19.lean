/- Part of the proof of UniformExact, UniformAccepted: layer. -/
import Derived.WalkKit
import Derived.ProofKit
import Derived.LaidMore
import Derived.OpenShut
import Derived.Stop.Joined
import Derived.MakeChecks
import Derived.SevenTiedAt
import Derived.Test.YtijednbpbbddbaaGreatDoorL18
set_option linter.all false
namespace Go.ns
open Go Go.ChangeShapes Go.WideShapes Go.ChangeAt Go.RowKit
def vV(W:World):nc:=λb o=>if b<W.heap.size then W.cell? ⟨b,o,none⟩else none
def WY(T:ec)(W:World)(a:¬∀g,T g=none)(c:∀g x,T g=some x->ic (vV W) (λ_=>0) 0 (.nt x) (.pointer (some ⟨g,0,none⟩))):GW T (λ_=>0) (vV W) [] W where
 JO:=by
  intro b o v h;unfold vV at h
  split at h
  ·exact h
  ·cases h
 oB:=by intro o cs h;simp at h
 inj:=by intro o o' h;exact absurd h (aaZ _)
 gF:=by intro o j h _;exact absurd h (aaZ _)
 fresh:=by
  intro b j h;unfold vV;rw[cI VW]
 F9:=c
 row h:=absurd h a
def GP{W:World}{b o:Nat}{v:Value}(h:W.cell? ⟨b,o,none⟩=some v):vV W b o=some v:=by
 unfold vV;rw[cK,h];unfold World.cell? at h;cases a:W.heap[b]?with
 |none=>simp[a] at h
 |some x=>exact(QW.1 a).1
def Ext.below{G G':Nat->Nat}{F F':nc}{n':Nat}{w w':World}(h:Ext w.heap.size G F 0 w G' F' n' w'):Below w.heap.size w w':=
 ⟨h.os,h.tape,h.output,h.size,λk a=>h.heap k a λo b=>absurd b (aaZ _)⟩
def fl.lift{P:Program}{f:FuncId}{args:List AV}{vs:List Value}{Post:AV->dd->Prop}{T:ec}{W:World}(a:¬∀g,T g=none)(b:∀g x,T g=some x->ic (vV W) (λ_=>0) 0 (.nt x) (.pointer (some ⟨g,0,none⟩)))
  (h:fl P T f args [] Post) (c:iI (vV W) (λ_=>0) 0 args vs):Calls P f vs.toArray W λe w'=>∃r H' v G' F',Post r H'/\e=.returned v/\ic F' G' H'.length r v/\Below W.heap.size W w':=by
 refine(h.2 _ _ W vs (WY T W a b) c).mono ?_;rintro e w' ⟨r,H',v,G',F',d,i,_,j,k⟩;exact⟨r,H',v,G',F',d,i,j,k.below⟩
def U_{F:nc}{G:Nat->Nat}{n:Nat}{v:Value}(h:ic F G n (.sc (.bool true)) v):v=.bool true:=by cases h;rfl
def fl.law{P:Program}{f:FuncId}{args:List AV}{vs:List Value}{T:ec}{W:World}(a:¬∀g,T g=none)(b:∀g x,T g=some x->ic (vV W) (λ_=>0) 0 (.nt x) (.pointer (some ⟨g,0,none⟩)))
  (h:fl P T f args [] λr _=>r=.sc (.bool true)) (c:iI (vV W) (λ_=>0) 0 args vs):Calls P f vs.toArray W λe w'=>e=.returned (.bool true)/\Below W.heap.size W w':=by
 refine(h.lift a b c).mono ?_;rintro e w' ⟨r,H',v,G',F',rfl,rfl,d,i⟩;exact⟨by rw[U_ d],i⟩
section
variable{H:Type} {enc:TypeId×Value->H} {P:Program}
def Gr{f:Func}{s:ChangeSpec}{apart fresh handsOn again:Bool}{W g:World}{args:Array Value}{v:Value}{h gs:List (DataW H)}{before pa pv:List MemPlace}
  (k:DataW.Whole enc P f.params.toList s.vars apart W args.toList h gs before)
  (d:∀(b:Nat) (sp:Nat->Bool) (o:Bool),DataW.TrodAll enc P g b sp o f.resultTypes.toList (v.resultList f.resultTypes.size) (s.fn H (h++gs)).results [])
  (a:∀sp:Nat->Bool,(∀p∈before,sp p.block=true)->DataW.TrodAll enc P g 0 sp true f.params.toList args.toList (s.fn H (h++gs)).args pa)
  (c:∀sp:Nat->Bool,(∀p∈before,sp p.block=true)->DataW.TrodVars enc P g sp s.vars (s.fn H (h++gs)).vars pv)
  (e:before=pa++pv) (n:Below W.heap.size W g)
  (l:∀(j:Nat) (t:TypeId) (r:Value),f.resultTypes[j]?=some t->(v.resultList f.resultTypes.size)[j]?=some r->Value.okWide P g .any 0 t r):s.post enc P f apart fresh handsOn again W args v g:=by
 have hold:∀p∈before,(λb=>decide (b<W.heap.size)) p.block=true:=λp i=>by simpa using k.lt p i
 refine⟨h,gs,before,[],pa,pv,k,d _ _ _,a _ hold,c _ hold,n.frame _,λ_=>?_⟩;have m:=k.lt;obtain⟨_,_,_,_,_,q,hn⟩:=k;refine⟨l,_,_,([]++pa)++pv,⟨[]++pa,pv,trodAll_append (a _ (λ_ _=>rfl)) (d _ _ _),c _ (λ_ _=>rfl),rfl,?_,?_⟩,?_⟩
 ·intro b off i
  have hm:MemPlace.cell b off∈before:=by rw[e];simpa using i
  rw[n.frozen (p:=⟨b,off,none⟩) (m _ hm)];exact q b off hm
 ·intro u;have:=hn u;rw[e] at this;simpa using this
 ·intro p i _;rw[e];simpa using i
end
def Fk{P:Program}{w:World}{r:Reach}{b:Nat}{t e:TypeId}{v:Value}(c:P.underlying t=some (.slice e))(a:Value.okWide P w r b t v):v.cells.toList=[v]:=by
 simp only[Value.okWide,c,Cell.okWide,Cell.ok] at a
 cases v<;>first|rfl|(exact a.elim)|(simp at a)
def Ve{H:Type}{enc:TypeId×Value->H}{P:Program}{W:World}{t e:TypeId}{fuel:Nat}{cs:List Value}{x:DataW H×List MemPlace}(y:P.underlying t=some (.slice e))(he:P.underlying e=some (.int .i64))(k:P.cellsOf e=1)
  (h:DataW.trod enc P W 0 (λ_=>true) true fuel t cs=some x):∃L:List Int,iI (vV W) (λ_=>0) 0 [.slice .jU (L.map λn=>.sc (.int .i64 n))] cs:=by
 rcases open_ints y he k h with⟨rfl,_⟩|⟨a,len,cap,f,rfl,_,A,B,C,_,w,_⟩
 ·exact⟨[],.cons (ic.slice (vs:=[]) (b:=0) (o:=0) (sz:=1) .nil (λi v h=>by simp at h) aaB aaB aaB (XC _) (XC _) (.inl rfl)) .nil⟩
 ·simp only[if_true] at C;refine⟨f.take len,.cons ?_ .nil⟩
  have m:((f.take len).map λn=>(AV.sc (.int .i64 n))).length=len:=aaP
  have g:((f.take len).map λn=>(AV.sc (.int .i64 n))).flatMap AV.cells=(f.take len).map λn=>(AV.sc (.int .i64 n)):=by
   generalize f.take len=l
   induction l with
   |nil=>rfl|cons z l p=>simp only[y5,Es,p];rfl
  have key:=@ic.slice (vV W) (λ_=>0) 0 .jU ((f.take len).map λn=>(AV.sc (.int .i64 n))) ((f.take len).map λn=>Value.int .i64 n) a.block a.off (some a) cap 1 ?_ ?_ ?_ ?_ ?_ ?_ B (.inl rfl)
  ·rw[m] at key;exact key
  ·rw[g]
   induction f.take len with
   |nil=>exact .nil|cons z l p=>exact .cons (.sc rfl) p
  ·intro i v j
   have hi:i<len:=by
    have:=(qb.1 j).1;simp at this;omega
   have q:i<f.length:=VW
   have d:=w i q
   have r:v=.int .i64 (f.getD i 0):=by
    rw[xr,adR hi] at j;rw[nw q] at j;simp at j;rw[<-j];simp[q]
   subst r;apply GP;unfold Addr.add at d
   split at d
   ·subst_vars
    unfold World.cell? at d|-
    split at d
    ·split at d
     ·cases d
     ·simp_all
    ·cases d
   ·exact d
  ·intro u
   have hlen:0<len:=by
    rw[<-m];exact T7.2 u
   have d:=w 0 VW;unfold Addr.add at d;simp at d;unfold World.cell? at d
   split at d
   ·split at d
    ·cases d
    ·rename_i hs;cases a with
     |mk b o s=>cases s<;>simp_all
   ·cases d
  ·intro x D;obtain⟨n,_,rfl⟩:=nU.1 D;rfl
  ·rw[g];intro c k;obtain⟨n,_,rfl⟩:=nU.1 k;rfl
  ·rw[m];exact A
def Rj{H:Type}{enc:TypeId×Value->H}{P:Program}{W:World}{t e:TypeId}{v:Value}{d:DataW H}{ps:List MemPlace}{r:Reach}{f:Nat}(b:P.underlying t=some (.slice e))(he:P.underlying e=some (.int .i64))(g:P.cellsOf e=1)
  (a:Value.okWide P W r f t v) (h:DataW.Trod enc P W 0 (λ_=>true) true t v d ps):∃L:List Int,iI (vV W) (λ_=>0) 0 [.slice .jU (L.map λn=>.sc (.int .i64 n))] [v]:=by
 obtain⟨fuel,c⟩:=h;rw[Fk b a] at c;exact Ve b he g c
end Go.ns
