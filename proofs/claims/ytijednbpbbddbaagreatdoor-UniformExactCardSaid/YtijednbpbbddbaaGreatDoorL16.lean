/- Part of the proof of UniformExact, UniformAccepted: layer. -/
import Derived.Lib.TrailingZeros
import Derived.Test.YtijednbpbbddbaaGreatDoorL15
set_option linter.all false
namespace Go.ek
open Go
def gY(a:Int):Option Int:=if 0<=a/\a<4294967296 then some (Lib.ctz 32 a.toNat:Int)else none
end Go.ek
