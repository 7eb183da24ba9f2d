/- Part of the proof of KernelUniform: layer. -/
import Derived.Lib.TrailingZeros
import Derived.Test.YtobcafblgapgfaaGreatDoorL14
set_option linter.all false
namespace Go.hJ
open Go
def iP(a:Int):Option Int:=if 0<=a/\a<4294967296 then some (Lib.ctz 32 a.toNat:Int)else none
end Go.hJ
