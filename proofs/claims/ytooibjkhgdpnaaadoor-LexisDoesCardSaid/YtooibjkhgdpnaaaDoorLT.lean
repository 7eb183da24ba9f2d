/- Models of the functions: what they compute, in plain Lean. -/
import Derived.Test.YtooibjkhgdpnaaaDoorOps
set_option linter.unusedSimpArgs false
set_option linter.unusedVariables false
namespace Go.Mdl
open Go

structure Tkn where
  kind : Int
  num : Int
  atF : Int
  text : ByteArray
@[simp] theorem Tkn.mk_eta (x : Tkn) : Tkn.mk x.kind x.num x.atF x.text = x := rfl
instance : Inhabited Tkn := ⟨.mk default default default default⟩
structure Smk_Deck where
  l : (List Int)
  atF : Int
@[simp] theorem Smk_Deck.mk_eta (x : Smk_Deck) : Smk_Deck.mk x.l x.atF = x := rfl
instance : Inhabited Smk_Deck := ⟨.mk default default⟩
def Tkn.eqB (x y : Tkn) : Bool := (ieq x.kind y.kind && (ieq x.num y.num && (ieq x.atF y.atF && (seq x.text y.text && true))))

end Go.Mdl
