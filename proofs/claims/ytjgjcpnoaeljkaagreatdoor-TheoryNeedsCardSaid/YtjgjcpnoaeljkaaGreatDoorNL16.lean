/- Part of the proof of TheoryNeeds: layer. -/
import Derived.Lib.TrailingZeros
import Derived.Test.YtjgjcpnoaeljkaaGreatDoorNL15
set_option linter.all false
namespace Go.eU
open Go
def gI(a:Int):Option Int:=if 0<=a/\a<4294967296 then some (Lib.ctz 32 a.toNat:Int)else none
end Go.eU
