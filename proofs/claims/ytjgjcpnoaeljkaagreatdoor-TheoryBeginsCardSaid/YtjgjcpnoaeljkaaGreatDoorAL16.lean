/- Part of the proof of TheoryBegins: layer. -/
import Derived.Lib.TrailingZeros
import Derived.Test.YtjgjcpnoaeljkaaGreatDoorAL15
set_option linter.all false
namespace Go.eZ
open Go
def gN(a:Int):Option Int:=if 0<=a/\a<4294967296 then some (Lib.ctz 32 a.toNat:Int)else none
end Go.eZ
