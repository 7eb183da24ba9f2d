/- Part of the proof of KernelAccepts, KernelDoes: layer. -/
import Derived.Lib.TrailingZeros
import Derived.Test.YtobcafblgapgfaaGreatDoorL15
set_option linter.all false
namespace Go.fB
open Go
def gD(a:Int):Option Int:=if 0<=a/\a<4294967296 then some (Lib.ctz 32 a.toNat:Int)else none
end Go.fB
