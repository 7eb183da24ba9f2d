/- Part of the proof of SchemeLists: layer. -/
import Derived.Lib.TrailingZeros
import Derived.Test.YtpgdkkomegalnaaGreatDoorLL17
set_option linter.all false
namespace Go.fD
open Go
def mA(a:Int):Option Int:=if 0<=a/\a<4294967296 then some (Lib.ctz 32 a.toNat:Int)else none
end Go.fD
