/- Part of the proof of KernelRefuses: layer. -/
import Derived.Lib.TrailingZeros
import Derived.Test.YtobcafblgapgfaaGreatDoorL14
set_option linter.all false
namespace Go.gV
open Go
def iT(a:Int):Option Int:=if 0<=a/\a<4294967296 then some (Lib.ctz 32 a.toNat:Int)else none
end Go.gV
