/- Part of the proof of TranslateWitness: layer. -/
import Derived.Lib.TrailingZeros
import Derived.Test.YtffcgfpaakhbjaaGreatDoorL15
set_option linter.all false
namespace Go.dF
open Go
def iV(a:Int):Option Int:=if 0<=a/\a<4294967296 then some (Lib.ctz 32 a.toNat:Int)else none
end Go.dF
