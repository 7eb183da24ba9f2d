/- Part of the proof of UniformExact, UniformAccepted: layer. -/
import Derived.ChangeArms
import Derived.Test.YtijednbpbbddbaaGreatDoorL21
set_option linter.all false
namespace Go.ns
open Go Go.ek
section
variable{H:Type} {enc:TypeId×Value->H} {P:Program} {W:World}
def Vw{t fuel:Nat}{cs:List Value}{x:DataW H×List MemPlace}(a:P.underlying t=some .bool)(h:DataW.trod enc P W 0 (λ_=>true) true fuel t cs=some x):∃k:Bool,FD W [.sc (.bool k)] cs:=by
 obtain⟨n,rfl,_⟩:=DataW.trod_bool a h;exact⟨n,.cons (.sc rfl) .nil⟩
def U5{t e:TypeId}{v:Value}{d:DataW H}{ps:List MemPlace}{r:Reach}{i:Nat}(f:P.underlying t=some (.slice e))(he:P.underlying e=some .bool)(j:P.cellsOf e=1)
  (c:Value.okWide P W r i t v) (h:DataW.Trod enc P W 0 (λ_=>true) true t v d ps):∃l:List Bool,FD W [.slice .jU (l.map λb=>.sc (.bool b))] [v]:=by
 obtain⟨fuel,g⟩:=h;rw[Fk f c] at g;exact qV (λb=>AV.sc (.bool b)) 1 f j VW (λ_=>rfl) (λa y hy=>by cases hy with|head=>rfl|tail _ h=>cases h) g (λf2 m n _ k=>Vw he k)
end
end Go.ns
