/- Part of the proof of SchemeAccepted: layer. -/
import Derived.Lib.TrailingZeros
import Derived.Test.YtpgdkkomegalnaaGreatDoorL17
set_option linter.all false
namespace Go.fN
open Go
def mM(a:Int):Option Int:=if 0<=a/\a<4294967296 then some (Lib.ctz 32 a.toNat:Int)else none
end Go.fN
