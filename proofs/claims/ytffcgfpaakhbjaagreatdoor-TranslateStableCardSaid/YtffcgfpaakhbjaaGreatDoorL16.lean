/- Part of the proof of TranslateStable: layer. -/
import Derived.Lib.TrailingZeros
import Derived.Test.YtffcgfpaakhbjaaGreatDoorL15
set_option linter.all false
namespace Go.dG
open Go
def jq(a:Int):Option Int:=if 0<=a/\a<4294967296 then some (Lib.ctz 32 a.toNat:Int)else none
end Go.dG
