/- Part of the proof of KernelLifts, KernelPuts, KernelCuts: layer. -/
import Derived.Lib.TrailingZeros
import Derived.Test.YtobcafblgapgfaaGreatDoorL14
set_option linter.all false
namespace Go.eD
open Go
def h7(a:Int):Option Int:=if 0<=a/\a<4294967296 then some (Lib.ctz 32 a.toNat:Int)else none
end Go.eD
